/- A part of the proof of the law GlyfDeep: the words, contracts and plain facts that it needs, no more. Each says its own condition. -/
import Derived.Test.YtjmliafplgjkhaaZGlyfDeeps
import Derived.Test.YtjmliafplgjkhaaZGlyfDeept
import Derived.Deep.WholeRow
import Derived.Deep.RegionHeld3
import Derived.WalkMore
namespace Go.Proofs.Ytjmliafplgjkhaa.P
open Go.RowKit Go.Proofs.YtjmliafplgjkhaaW.PrintWords Go.Proofs.YtjmliafplgjkhaaW.PrintLast Go.Proofs.YtjmliafplgjkhaaW.PrintMore
set_option linter.unusedSimpArgs false
set_option linter.unusedVariables false
theorem one_some (s : ByteArray) : ∃ a b c d e x, glyf_one.f s = some (a, b, c, d, e, x) := by
  unfold glyf_one.f
  by_cases h : s.toList = ([] : List UInt8)
  · rw [if_pos h]; exact ⟨_, _, _, _, _, _, rfl⟩
  · rw [if_neg h]
    unfold glyf_fields.f bin_Get.f
    simp only [Option.bind_some]
    rw [if_pos (by decide)]
    simp only [Option.bind_some]
    obtain ⟨r, e, hr⟩ : ∃ r e, getN s 2 [-2, -2, -2, -2] = (r, e) := ⟨_, _, rfl⟩
    rw [hr]
    by_cases he : e = 0
    · subst he
      have hl := getN_len hr
      have h4 : r.length = 4 := hl
      simp only
      rw [if_pos trivial, if_pos (by omega), if_pos (by omega), if_pos (by omega), if_pos (by omega)]
      unfold glyf_Is.f glyf_fields.f bin_Put.f
      simp only [Option.bind_some]
      rw [if_pos trivial, if_pos (by decide)]
      simp only [Option.bind_some]
      split
      · split
        · simp only [Option.bind_some]; split <;> exact ⟨_, _, _, _, _, _, rfl⟩
        · simp only [Option.bind_some]; split <;> exact ⟨_, _, _, _, _, _, rfl⟩
      · simp only [Option.bind_some]; split <;> exact ⟨_, _, _, _, _, _, rfl⟩
    · simp only
      rw [if_neg he]; exact ⟨_, _, _, _, _, _, rfl⟩
def oneP (s : ByteArray) : S30 × Int := match glyf_one.f s with
  | some (a, b, c, d, e, x) => (⟨a, b, c, d, e⟩, x)
  | none => (z30, 0)
def getsN (t : ByteArray) : List Int → List S30 × Int
  | a :: b :: r => if b < a then ([], 5) else if (t.size : Int) < b then ([], 4) else if (oneP (t.extract a.toNat b.toNat)).2 ≠ 0 then ([], (oneP (t.extract a.toNat b.toNat)).2) else
      if (getsN t (b :: r)).2 = 0 then ((oneP (t.extract a.toNat b.toNat)).1 :: (getsN t (b :: r)).1, 0) else ([], (getsN t (b :: r)).2)
  | _ => ([], 0)
def getX (s t : ByteArray) (g : Nat) (far : Bool) : List S30 × Int := if (placesN s g far).2 ≠ 0 then ([], (placesN s g far).2) else getsN t (placesN s g far).1
def glyf_Get.f (a0 a1 : ByteArray) (a2 : Int) (a3 : Bool) : Option (List S30 × Int) := if a2 < 1 ∨ 65535 < a2 then some ([], 1) else some (getX a0 a1 a2.toNat a3)
theorem takes_nonneg : ∀ (l : List Int) (t : ByteArray) (r : List Int), (∀ s ∈ l, 0 < s) → takes t l = some r → ∀ x ∈ r, 0 ≤ x
  | [], t, r, _, h => by simp [takes] at h; rw [h]; intro x hx; simp at hx
  | s :: l, t, r, hs, h => by
    simp only [takes] at h
    split at h
    · cases hq : takes (t.extract s.natAbs t.size) l with
      | none => rw [hq] at h; simp at h
      | some q =>
        rw [hq] at h
        simp at h
        rw [← h]
        intro x hx
        rcases List.mem_cons.1 hx with hx | hx
        · rw [hx]
          unfold takeN
          rw [if_neg (by have := hs s List.mem_cons_self; omega)]
          exact (numAt_bd t s.natAbs).1
        · exact takes_nonneg l _ q (fun s' h' => hs s' (List.mem_cons_of_mem _ h')) hq x hx
    · simp at h
theorem getN_nonneg {s : ByteArray} {p : Int} {l r : List Int} (hs : ∀ x ∈ l, 0 < x) (h : getN s p l = (r, 0)) : ∀ x ∈ r, 0 ≤ x := by
  unfold getN at h
  split at h
  · simp at h
  · split at h
    · simp at h
    · split at h
      · simp at h
      · rename_i q hq
        simp at h
        rw [← h]; exact takes_nonneg _ _ _ hs hq
theorem takes_two : ∀ (k : Nat) (t : ByteArray) (r : List Int), takes t (repN [2] k) = some r → ∀ x ∈ r, x < 65536
  | 0, t, r, h => by simp [repN, takes] at h; rw [h]; intro x hx; simp at hx
  | k + 1, t, r, h => by
    simp only [repN, List.cons_append, List.nil_append, takes] at h
    split at h
    · cases hq : takes (t.extract (2 : Int).natAbs t.size) (repN [2] k) with
      | none => rw [hq] at h; simp at h
      | some q =>
        rw [hq] at h
        simp at h
        rw [← h]
        intro x hx
        rcases List.mem_cons.1 hx with hx | hx
        · rw [hx]
          unfold takeN
          rw [if_neg (by omega)]
          exact (numAt_bd t (2 : Int).natAbs).2
        · exact takes_two k _ q hq x hx
    · simp at h
theorem mem_rep {x : Int} {s : Int} : ∀ k, x ∈ repN [s] k → x = s
  | 0, h => by simp [repN] at h
  | k + 1, h => by
    simp only [repN, List.cons_append, List.nil_append, List.mem_cons] at h
    rcases h with h | h
    · exact h
    · exact mem_rep k h
theorem places_told {s : ByteArray} {g : Nat} {far : Bool} {L : List Int} (h : placesN s g far = (L, 0)) : L.length = g + 1 ∧ ∀ x ∈ L, 0 ≤ x := by
  have hrl : ∀ z : Int, (repN [z] (g + 1)).length = g + 1 := fun z => by rw [repN_length]; exact Nat.one_mul _
  unfold placesN at h
  cases far with
  | true =>
    rw [if_pos rfl] at h
    exact ⟨by rw [getN_len h, hrl], getN_nonneg (fun x hx => by rw [mem_rep _ hx]; decide) h⟩
  | false =>
    rw [if_neg Bool.false_ne_true] at h
    obtain ⟨M, e, hM⟩ : ∃ M e, getN s 0 (repN [2] (g + 1)) = (M, e) := ⟨_, _, rfl⟩
    rw [hM] at h
    by_cases he : e = 0
    · rw [if_pos he] at h
      obtain ⟨h1, _⟩ := Prod.mk.inj h
      subst he
      have hn := getN_nonneg (fun x hx => by rw [mem_rep _ hx]; decide) hM
      have ht : ∀ x ∈ M, x < 65536 := by
        unfold getN at hM
        split at hM
        · simp at hM
        · split at hM
          · simp at hM
          · split at hM
            · simp at hM
            · rename_i q hq
              simp at hM
              rw [← hM]; exact takes_two _ _ _ hq
      rw [← h1]
      refine ⟨by rw [List.length_map, getN_len hM, hrl], fun x hx => ?_⟩
      obtain ⟨y, hy, rfl⟩ := List.mem_map.1 hx
      have := hn y hy
      have := ht y hy
      unfold dbl wrap64; omega
    · rw [if_neg he] at h
      exact absurd (Prod.mk.inj h).2 he
theorem rd_at (L : List Int) (i : Nat) (h : i < L.length) : rd L (i : Int) = L[i] := by
  unfold rd
  rw [Int.toNat_natCast, List.getD_eq_getElem?_getD, List.getElem?_eq_getElem h]; rfl
theorem getsN_nil (t : ByteArray) : ∀ L : List Int, (getsN t L).2 ≠ 0 → (getsN t L).1 = []
  | [], h => rfl
  | [a], h => rfl
  | a :: b :: r, h => by
    unfold getsN at h ⊢
    split
    · rfl
    · split
      · rfl
      · split
        · rfl
        · split
          · rename_i h1 h2 h3 h4
            rw [if_neg h1, if_neg h2, if_neg h3, if_pos h4] at h
            exact absurd rfl h
          · rfl
def Going (t : ByteArray) (L : List Int) (i : Nat) (xs : List S30) (r : List S30 × Int) : Prop := (if (getsN t (L.drop i)).2 = 0 then (xs ++ (getsN t (L.drop i)).1, 0) else ([], (getsN t (L.drop i)).2)) = r
theorem going_err {t : ByteArray} {L : List Int} {i : Nat} {xs : List S30} {r : List S30 × Int} (h : Going t L i xs r) (c : Int) (hc : c ≠ 0) (hg : getsN t (L.drop i) = ([], c)) : r = ([], c) := by
  unfold Going at h
  rw [hg] at h
  simp only at h
  rw [if_neg hc] at h
  exact h.symm
def extCells (x : S30) : List Value := [.bool x.f0, .int .i64 x.f1, .int .i64 x.f2, .int .i64 x.f3, .int .i64 x.f4]
theorem store_five (B : Nat) (w : World) (hh : w.heap[B]? = some (.cells #[.bool false, .int .i64 0, .int .i64 0, .int .i64 0, .int .i64 0] 30 (0, 0))) (x : S30) :
    (Instr.storeAt 30 (.pointer (some ⟨B, 0, none⟩)) (.agg #[.bool x.f0, .int .i64 x.f1, .int .i64 x.f2, .int .i64 x.f3, .int .i64 x.f4])).run Try.prog w = .ok () (w.setCells B 0 (extCells x)) ∧
      (w.setCells B 0 (extCells x)).heap[B]? = some (.cells #[.bool x.f0, .int .i64 x.f1, .int .i64 x.f2, .int .i64 x.f3, .int .i64 x.f4] 30 (0, 0)) ∧ Below B w (w.setCells B 0 (extCells x)) ∧ (∀ k, k ≠ B → (w.setCells B 0 (extCells x)).heap[k]? = w.heap[k]?) := by
  refine ⟨run_store_run 30 _ (extCells x) hh rfl (by kernel_rfl) (show 0 + 5 ≤ 5 by decide) (fun q hq => ?_), ?_, ?_, fun k hk => ?_⟩
  · unfold extCells at hq
    simp only [List.mem_cons, List.not_mem_nil, or_false] at hq
    rcases hq with rfl | rfl | rfl | rfl | rfl <;> rfl
  · unfold extCells
    simp only [World.setCells]
    have h1 := heap_setCell_same w B 0 _ _ (.bool x.f0) hh
    have h2 := heap_setCell_same _ B 1 _ _ (.int .i64 x.f1) h1
    have h3 := heap_setCell_same _ B 2 _ _ (.int .i64 x.f2) h2
    have h4 := heap_setCell_same _ B 3 _ _ (.int .i64 x.f3) h3
    have h5 := heap_setCell_same _ B 4 _ _ (.int .i64 x.f4) h4
    exact h5
  · unfold extCells
    simp only [World.setCells]
    exact (((((Below.refl B w).setCell (p := ⟨B, 0, none⟩) (Nat.le_refl _) _).setCell (p := ⟨B, 1, none⟩) (Nat.le_refl _) _).setCell (p := ⟨B, 2, none⟩) (Nat.le_refl _) _).setCell (p := ⟨B, 3, none⟩) (Nat.le_refl _) _).setCell (p := ⟨B, 4, none⟩) (Nat.le_refl _) _
  · unfold extCells
    simp only [World.setCells]
    rw [Below.heap_setCell _ _ _ k (by exact hk), Below.heap_setCell _ _ _ k (by exact hk), Below.heap_setCell _ _ _ k (by exact hk), Below.heap_setCell _ _ _ k (by exact hk), Below.heap_setCell _ _ _ k (by exact hk)]
theorem five_cells {B : Nat} {W : World} {x : S30} (h : W.heap[B]? = some (.cells #[.bool x.f0, .int .i64 x.f1, .int .i64 x.f2, .int .i64 x.f3, .int .i64 x.f4] 30 (0, 0))) :
    W.cell? ⟨B, 0, none⟩ = some (.bool x.f0) ∧ W.cell? ⟨B, 1, none⟩ = some (.int .i64 x.f1) ∧ W.cell? ⟨B, 2, none⟩ = some (.int .i64 x.f2) ∧ W.cell? ⟨B, 3, none⟩ = some (.int .i64 x.f3) ∧ W.cell? ⟨B, 4, none⟩ = some (.int .i64 x.f4) :=
  ⟨cell_of_row W B 0 _ _ (0, 0) h, cell_of_row W B 1 _ _ (0, 0) h, cell_of_row W B 2 _ _ (0, 0) h, cell_of_row W B 3 _ _ (0, 0) h, cell_of_row W B 4 _ _ (0, 0) h⟩
theorem going_on {t : ByteArray} {L : List Int} {i : Nat} {xs : List S30} {r : List S30 × Int} {x : S30} {a b : Int} {q : List Int} (h : Going t L i xs r) (hd : L.drop i = a :: b :: q) (hd1 : L.drop (i + 1) = b :: q) (h1 : ¬ b < a) (h2 : ¬ (t.size : Int) < b) (ho : oneP (t.extract a.toNat b.toNat) = (x, 0)) : Going t L (i + 1) (xs ++ [x]) r := by
  have e : getsN t (a :: b :: q) = if (getsN t (b :: q)).2 = 0 then (x :: (getsN t (b :: q)).1, 0) else ([], (getsN t (b :: q)).2) := by
    conv => lhs; unfold getsN
    rw [if_neg h1, if_neg h2, ho]
    exact if_neg (fun e => e rfl)
  unfold Going at h ⊢
  rw [hd, e] at h
  rw [hd1, ← h]
  by_cases hq : (getsN t (b :: q)).2 = 0
  · rw [if_pos hq, if_pos hq, if_pos rfl, List.append_assoc]; rfl
  · rw [if_neg hq, if_neg hq, if_neg hq]
theorem len_ext {n : Nat} (h : n ≤ 65535) : (n + 1) * 40 ≤ 140737488355328 := by omega
set_option linter.unusedSimpArgs false
set_option maxRecDepth 100000 in
set_option maxHeartbeats 4000000 in
theorem glyf_get_walk (s t : ByteArray) (g : Nat) (far : Bool) (hg1 : 1 ≤ g) (hg : g ≤ 65535) (w : World) (r : List S30 × Int) (hr : getX s t g far = r) :
    Calls Try.prog 7 #[.string s, .string t, .int .i64 (g : Int), .bool far] w fun e w' => ∃ v0_ : Value, e = .returned (.tuple #[v0_, .int .i64 r.2]) ∧ Kd.R k30 30 w' w.heap.size (fun _ => True) v0_ r.1 ∧ Below w.heap.size w w' := by
  have d1 : decide ((g : Int) < 1) = false := decide_eq_false (by omega)
  have d2 : decide ((65535 : Int) < (g : Int)) = false := decide_eq_false (by omega)
  have d3 : decide (65535 < g) = false := decide_eq_false (by omega)
  have d4 : decide (g < 1) = false := decide_eq_false (by omega)
  have HG := Lib.hid (show 1 ≤ g ∧ g ≤ 65535 from ⟨hg1, hg⟩)
  have HR := Lib.hid hr
  have hz := (zero_of_info (P := Try.prog) (t := 30) (v := .agg #[.bool false, .int .i64 0, .int .i64 0, .int .i64 0, .int .i64 0]) (n := 5) (by kernel_rfl)).1
  clear hg1 hg hr
  go_enter Try.func7, Try.ntmps7
  go_wp2_with fail
  go_step3
  go_wp2_with fail
  obtain ⟨L, e, hL⟩ : ∃ L e, placesN s g far = (L, e) := ⟨_, _, rfl⟩
  have HL := Lib.hid hL
  clear hL
  refine (glyf_places.calls s (g : Int) far L e _ (by unfold glyf_places.f; rw [if_pos (by have := HG.out; omega), Int.toNat_natCast, HL.out])).mono ?_
  rintro x w1 ⟨v, rfl, hv, hb⟩
  have HB1 := Lib.hid hb
  clear hb
  by_cases he : e = 0
  · have hp := places_told (by rw [← he]; exact HL.out)
    have hlen := hp.1
    obtain ⟨ga, ka, rfl, hga1, hga2, hka, _, hca⟩ := row_block hv (by omega)
    have HLEN := Lib.hid hlen
    have HNN := Lib.hid hp.2
    have HCA := Lib.hid hca
    have HGA := Lib.hid hga2
    have hres : getsN t L = r := by rw [← HR.out]; unfold getX; rw [HL.out, if_neg (by simpa using he)]
    have HRES := Lib.hid hres
    subst he
    clear hv hp hga1 hga2 hka hca hres
    rw [hlen]
    clear hlen
    go_wp2_with fail
    go_step3
    go_wp2_with fail
    go_loopw [32, 11, 12] (fun v32 v11 v12 wr => ∃ (i : Nat) (xs : List S30), i ≤ g ∧ v32 = .int .i64 (i : Int) ∧ v11 = .int .i64 0 ∧ Aside0 (xs.length = i) ∧ Aside0 (Kd.R k30 30 wr w1.heap.size (fun _ => True) v12 xs) ∧ Aside0 (Below w1.heap.size w1 wr) ∧ Aside0 (Going t L i xs r)) (fun v32 _ _ _ => g - (intOf v32).toNat)
    case atStart => exact ⟨0, [], Nat.zero_le _, rfl, rfl, ⟨rfl⟩, ⟨Kd.R_nil _ _ _ _ _⟩, ⟨Below.refl _ _⟩, ⟨by
      unfold Going
      rw [List.drop_zero, List.nil_append, HRES.out]
      by_cases h2 : r.2 = 0
      · rw [if_pos h2, ← h2]
      · rw [if_neg h2]
        have : r.1 = [] := by rw [← HRES.out] at h2 ⊢; exact getsN_nil t L h2
        rw [← this]⟩⟩
    case round =>
      obtain ⟨i, xs, hi, rfl, rfl, HXL, HX, HB, HGO⟩ := hrel
      by_cases hlt : i < g
      · have q0 : (0 : Int) ≤ (i : Int) := by omega
        have q1 : (i : Int) < (g : Int) + 1 := by omega
        have q2 : (0 : Int) ≤ (i : Int) + 1 := by omega
        have q3 : (i : Int) + 1 < (g : Int) + 1 := by omega
        have d5 : decide ((i : Int) < (g : Int)) = true := decide_eq_true (by omega)
        have hwi : wrap64 ((i : Int) + 1) = ((i + 1 : Nat) : Int) := by have := HG.out; unfold wrap64; omega
        have hlL := HLEN.out
        have hi1 : i < L.length := by omega
        have hi2 : i + 1 < L.length := by omega
        have hca := (HB.out.cell (p := ⟨ga, i, none⟩) HGA.out).trans (HCA.out i hi1)
        have hcb := (HB.out.cell (p := ⟨ga, i + 1, none⟩) HGA.out).trans (HCA.out (i + 1) hi2)
        obtain ⟨a, ha⟩ : ∃ a, a = L[i] := ⟨_, rfl⟩
        obtain ⟨b, hb⟩ : ∃ b, b = L[i + 1] := ⟨_, rfl⟩
        rw [rd_at L i hi1, ← ha] at hca
        rw [rd_at L (i + 1) hi2, ← hb] at hcb
        have HA0 := Lib.hid (show 0 ≤ a by rw [ha]; exact HNN.out _ (List.getElem_mem hi1))
        have hdr : L.drop i = a :: b :: L.drop (i + 2) := by rw [List.drop_eq_getElem_cons hi1, List.drop_eq_getElem_cons hi2, ← ha, ← hb]
        have hdr1 : L.drop (i + 1) = b :: L.drop (i + 2) := by rw [List.drop_eq_getElem_cons hi2, ← hb]
        have HDR := Lib.hid hdr
        have HDR1 := Lib.hid hdr1
        have HCAB := Lib.hid (show wr.cell? ⟨ga, i, none⟩ = some (.int .i64 a) ∧ wr.cell? ⟨ga, i + 1, none⟩ = some (.int .i64 b) from ⟨hca, hcb⟩)
        obtain ⟨Ax, kx, rfl⟩ := Kd.R_slice HX.out
        obtain ⟨wb, hwb⟩ : ∃ wb, wb = wr.alloc (.cells #[.bool false, .int .i64 0, .int .i64 0, .int .i64 0, .int .i64 0] 30) := ⟨_, rfl⟩
        have HWB := Lib.hid hwb
        have BWB := Lib.hid (show Below wr.heap.size wr wb by rw [hwb]; exact (Below.refl _ _).alloc (Nat.le_refl _) _)
        have hgw : ga < wr.heap.size := Nat.lt_of_lt_of_le HGA.out HB.out.size
        have HCB := Lib.hid (show wb.cell? ⟨ga, i, none⟩ = some (.int .i64 a) ∧ wb.cell? ⟨ga, i + 1, none⟩ = some (.int .i64 b) from ⟨(BWB.out.cell hgw).trans hca, (BWB.out.cell hgw).trans hcb⟩)
        clear ha hb hdr hdr1 hlL hi1 hi2 hca hcb hwb hgw
        replace q0 := eq_true q0
        replace q1 := eq_true q1
        replace q2 := eq_true q2
        replace q3 := eq_true q3
        go_wp2_with fail
        rw [← HWB.out]
        refine start_ (n := 11) (S := fun u => u.cell? ⟨ga, i, none⟩ = some (.int .i64 a) ∧ u.cell? ⟨ga, i + 1, none⟩ = some (.int .i64 b)) (ds := []) #[false, false, false, false, false, false, false, false, false, false, false] (by kernel_rfl) rfl rfl HCB.out (fun hHeld => ?_)
        obtain ⟨wc, hwc⟩ : ∃ wc, wc = wb.drew := ⟨_, rfl⟩
        have BWC := Lib.hid (show Below wr.heap.size wr wc by rw [hwc]; exact below_drew1 BWB.out)
        have HSC := Lib.hid (show wc.heap.size = wr.heap.size + 1 by rw [hwc]; show wb.heap.size = _; rw [HWB.out]; simp)
        have HXC := Lib.hid (show wc.cell? ⟨wr.heap.size, 0, none⟩ = some (.bool false) ∧ wc.cell? ⟨wr.heap.size, 1, none⟩ = some (.int .i64 0) ∧ wc.cell? ⟨wr.heap.size, 2, none⟩ = some (.int .i64 0) ∧ wc.cell? ⟨wr.heap.size, 3, none⟩ = some (.int .i64 0) ∧ wc.cell? ⟨wr.heap.size, 4, none⟩ = some (.int .i64 0) by
          rw [hwc, HWB.out]; exact ⟨by simp [go_sem], by simp [go_sem], by simp [go_sem], by simp [go_sem], by simp [go_sem]⟩)
        have HFC := Lib.hid (show ∀ j, wc.frozen? ⟨wr.heap.size, j, none⟩ = false from fun j => by rw [hwc, HWB.out]; simp [go_sem])
        have HHC := Lib.hid (show wc.heap[wr.heap.size]? = some (.cells #[.bool false, .int .i64 0, .int .i64 0, .int .i64 0, .int .i64 0] 30 (0, 0)) by rw [hwc, HWB.out]; exact (MapKept.heap_alloc wr _).1)
        rw [← hwc] at hHeld ⊢
        clear hwc BWB HWB HCB
        refine pure_ (i := 0) (N := some 51) (v := ?_) (a' := ?_) #[true, false, false, false, false, false, false, false, false, false, false] rfl rfl (by kernel_rfl) (fun _ _ _ h => h) (Or.inl ⟨by rfl, ?_⟩) ?_ ?_
        rotate_left
        · intro w'
          go_simp
          with_reducible rfl
        rotate_left
        · simp only [Act.put, List.setIfInBounds_toArray, List.set_cons_zero, List.set_cons_succ, i64_w, i32_w]
          rfl
        refine pure_ (i := 1) (N := some 52) (v := ?_) (a' := ?_) #[true, true, false, false, false, false, false, false, false, false, false] rfl rfl (by kernel_rfl) (fun _ _ _ h => h) (Or.inl ⟨by rfl, ?_⟩) ?_ ?_
        rotate_left
        · intro w'
          go_simp
          with_reducible rfl
        rotate_left
        · simp only [Act.put, List.setIfInBounds_toArray, List.set_cons_zero, List.set_cons_succ, i64_w, i32_w]
          rfl
        refine pure_ (i := 2) (N := some 53) (v := ?_) (a' := ?_) #[true, true, true, false, false, false, false, false, false, false, false] rfl rfl (by kernel_rfl) (fun _ _ _ h => h) (Or.inl ⟨by rfl, ?_⟩) ?_ ?_
        rotate_left
        · intro w'
          go_simp
          with_reducible rfl
        rotate_left
        · simp only [Act.put, List.setIfInBounds_toArray, List.set_cons_zero, List.set_cons_succ, i64_w, i32_w]
          rfl
        refine pure_ (i := 3) (N := some 54) (v := ?_) (a' := ?_) #[true, true, true, true, false, false, false, false, false, false, false] rfl rfl (by kernel_rfl) (fun _ _ _ h => h) (Or.inl ⟨by rfl, ?_⟩) ?_ ?_
        rotate_left
        · intro w'
          go_simp
          with_reducible rfl
        rotate_left
        · simp only [Act.put, List.setIfInBounds_toArray, List.set_cons_zero, List.set_cons_succ, i64_w, i32_w]
          rfl
        refine take_ (i := 4) (N := some 55) (v := ?_) (a' := ?_) #[true, true, true, true, true, false, false, false, false, false, false] rfl rfl (by kernel_rfl) (fun _ _ _ h => h) (Or.inl ⟨by rfl, ?_⟩) hHeld ?_ ?_
        rotate_left
        · rintro w' s0
          obtain ⟨s1, s2⟩ := s0
          go_simp
          with_reducible rfl
        rotate_left
        · simp only [Act.put, List.setIfInBounds_toArray, List.set_cons_zero, List.set_cons_succ, i64_w, i32_w]
          rfl
        refine pure_ (i := 5) (N := some 56) (v := ?_) (a' := ?_) #[true, true, true, true, true, true, false, false, false, false, false] rfl rfl (by kernel_rfl) (fun _ _ _ h => h) (Or.inl ⟨by rfl, ?_⟩) ?_ ?_
        rotate_left
        · intro w'
          go_simp
          with_reducible rfl
        rotate_left
        · simp only [Act.put, List.setIfInBounds_toArray, List.set_cons_zero, List.set_cons_succ, i64_w, i32_w]
          rfl
        refine pure_ (i := 6) (N := some 57) (v := ?_) (a' := ?_) #[true, true, true, true, true, true, true, false, false, false, false] rfl rfl (by kernel_rfl) (fun _ _ _ h => h) (Or.inl ⟨by rfl, ?_⟩) ?_ ?_
        rotate_left
        · intro w'
          go_simp
          with_reducible rfl
        rotate_left
        · simp only [Act.put, List.setIfInBounds_toArray, List.set_cons_zero, List.set_cons_succ, i64_w, i32_w]
          rfl
        refine pure_ (i := 7) (N := some 58) (v := ?_) (a' := ?_) #[true, true, true, true, true, true, true, true, false, false, false] rfl rfl (by kernel_rfl) (fun _ _ _ h => h) (Or.inl ⟨by rfl, ?_⟩) ?_ ?_
        rotate_left
        · intro w'
          go_simp
          with_reducible rfl
        rotate_left
        · simp only [Act.put, List.setIfInBounds_toArray, List.set_cons_zero, List.set_cons_succ, i64_w, i32_w]
          rfl
        refine take_ (i := 8) (N := some 59) (v := ?_) (a' := ?_) #[true, true, true, true, true, true, true, true, true, false, false] rfl rfl (by kernel_rfl) (fun _ _ _ h => h) (Or.inl ⟨by rfl, ?_⟩) hHeld ?_ ?_
        rotate_left
        · rintro w' s0
          obtain ⟨s1, s2⟩ := s0
          go_simp
          with_reducible rfl
        rotate_left
        · simp only [Act.put, List.setIfInBounds_toArray, List.set_cons_zero, List.set_cons_succ, i64_w, i32_w]
          rfl
        refine pure_ (i := 9) (N := some 60) (v := ?_) (a' := ?_) #[true, true, true, true, true, true, true, true, true, true, false] rfl rfl (by kernel_rfl) (fun _ _ _ h => h) (Or.inl ⟨by rfl, ?_⟩) ?_ ?_
        rotate_left
        · intro w'
          go_simp
          with_reducible rfl
        rotate_left
        · simp only [Act.put, List.setIfInBounds_toArray, List.set_cons_zero, List.set_cons_succ, i64_w, i32_w]
          rfl
        refine pure_ (i := 10) (N := some 50) (v := ?_) (a' := ?_) #[true, true, true, true, true, true, true, true, true, true, true] rfl rfl (by kernel_rfl) (fun _ _ _ h => h) (Or.inl ⟨by rfl, ?_⟩) ?_ ?_
        rotate_left
        · intro w'
          go_simp
          with_reducible rfl
        rotate_left
        · simp only [Act.put, List.setIfInBounds_toArray, List.set_cons_zero, List.set_cons_succ, i64_w, i32_w]
          rfl
        refine done_ (by kernel_rfl) ?_
        have HHELD := Lib.hid hHeld
        clear hHeld
        by_cases h1 : b < a
        · have d6 : decide (b < a) = true := decide_eq_true h1
          have hres : r = ([], 5) := going_err HGO.out 5 (by decide) (by rw [HDR.out]; unfold getsN; rw [if_pos h1])
          have HRE := Lib.hid hres
          have HB9 := Lib.hid (HB1.out.trans ((HB.out.trans (BWC.out.mono HB.out.size)).mono HB1.out.size))
          clear hres h1
          rw [d6]
          go_wp2
          (try rw [Exit.noGoto_ret])
          go_ret2
          rw [HRE.out]
          exact ⟨_, rfl, Kd.R_nil _ _ _ _ _, HB9.out⟩
        have d6 : decide (b < a) = false := decide_eq_false h1
        have H1 := Lib.hid h1
        clear h1
        rw [d6]
        have hc2 := HHELD.out.2
        by_cases h2 : (t.size : Int) < b
        · have d7 : decide ((t.size : Int) < b) = true := decide_eq_true h2
          have hres : r = ([], 4) := going_err HGO.out 4 (by decide) (by rw [HDR.out]; unfold getsN; rw [if_neg (by have := H1.out; omega), if_pos h2])
          have HRE := Lib.hid hres
          have HB9 := Lib.hid (HB1.out.trans ((HB.out.trans (BWC.out.mono HB.out.size)).mono HB1.out.size))
          clear hres h2
          go_wp2
          (try rw [Exit.noGoto_ret])
          go_ret2
          rw [HRE.out]
          exact ⟨_, rfl, Kd.R_nil _ _ _ _ _, HB9.out⟩
        have d7 : decide ((t.size : Int) < b) = false := decide_eq_false h2
        have H2 := Lib.hid h2
        clear h2
        go_wp2_with fail
        refine start_ (n := 17) (S := fun u => u.cell? ⟨ga, i, none⟩ = some (.int .i64 a) ∧ u.cell? ⟨ga, i + 1, none⟩ = some (.int .i64 b)) (ds := [15]) #[false, false, false, false, false, false, false, false, false, false, false, false, false, false, false, false, false] (by kernel_rfl) rfl rfl HHELD.out (fun hHeld => ?_)
        obtain ⟨wd, hwd⟩ : ∃ wd, wd = wc.drew := ⟨_, rfl⟩
        have BWD := Lib.hid (show Below wr.heap.size wr wd by rw [hwd]; exact below_drew1 BWC.out)
        have HSD := Lib.hid (show wd.heap.size = wr.heap.size + 1 by rw [hwd]; exact HSC.out)
        have HHD := Lib.hid (show wd.heap[wr.heap.size]? = some (.cells #[.bool false, .int .i64 0, .int .i64 0, .int .i64 0, .int .i64 0] 30 (0, 0)) by rw [hwd]; exact HHC.out)
        rw [← hwd] at hHeld ⊢
        have h0a : 0 ≤ a := HA0.out
        have hab : a ≤ b := by have := H1.out; omega
        have hbt : b ≤ (t.size : Int) := by have := H2.out; omega
        clear hwd hc2
        refine pure_ (i := 0) (N := some 36) (v := ?_) (a' := ?_) #[true, false, false, false, false, false, false, false, false, false, false, false, false, false, false, false, false] rfl rfl (by kernel_rfl) (fun _ _ _ h => h) (Or.inl ⟨by rfl, ?_⟩) ?_ ?_
        rotate_left
        · intro w'
          go_simp
          with_reducible rfl
        rotate_left
        · simp only [Act.put, List.setIfInBounds_toArray, List.set_cons_zero, List.set_cons_succ, i64_w, i32_w]
          rfl
        refine pure_ (i := 1) (N := some 37) (v := ?_) (a' := ?_) #[true, true, false, false, false, false, false, false, false, false, false, false, false, false, false, false, false] rfl rfl (by kernel_rfl) (fun _ _ _ h => h) (Or.inl ⟨by rfl, ?_⟩) ?_ ?_
        rotate_left
        · intro w'
          go_simp
          with_reducible rfl
        rotate_left
        · simp only [Act.put, List.setIfInBounds_toArray, List.set_cons_zero, List.set_cons_succ, i64_w, i32_w]
          rfl
        refine pure_ (i := 2) (N := some 38) (v := ?_) (a' := ?_) #[true, true, true, false, false, false, false, false, false, false, false, false, false, false, false, false, false] rfl rfl (by kernel_rfl) (fun _ _ _ h => h) (Or.inl ⟨by rfl, ?_⟩) ?_ ?_
        rotate_left
        · intro w'
          go_simp
          with_reducible rfl
        rotate_left
        · simp only [Act.put, List.setIfInBounds_toArray, List.set_cons_zero, List.set_cons_succ, i64_w, i32_w]
          rfl
        refine pure_ (i := 3) (N := some 39) (v := ?_) (a' := ?_) #[true, true, true, true, false, false, false, false, false, false, false, false, false, false, false, false, false] rfl rfl (by kernel_rfl) (fun _ _ _ h => h) (Or.inl ⟨by rfl, ?_⟩) ?_ ?_
        rotate_left
        · intro w'
          go_simp
          with_reducible rfl
        rotate_left
        · simp only [Act.put, List.setIfInBounds_toArray, List.set_cons_zero, List.set_cons_succ, i64_w, i32_w]
          rfl
        refine take_ (i := 4) (N := some 40) (v := ?_) (a' := ?_) #[true, true, true, true, true, false, false, false, false, false, false, false, false, false, false, false, false] rfl rfl (by kernel_rfl) (fun _ _ _ h => h) (Or.inl ⟨by rfl, ?_⟩) hHeld ?_ ?_
        rotate_left
        · rintro w' s0
          obtain ⟨s1, s2⟩ := s0
          go_simp
          with_reducible rfl
        rotate_left
        · simp only [Act.put, List.setIfInBounds_toArray, List.set_cons_zero, List.set_cons_succ, i64_w, i32_w]
          rfl
        refine pure_ (i := 5) (N := some 41) (v := ?_) (a' := ?_) #[true, true, true, true, true, true, false, false, false, false, false, false, false, false, false, false, false] rfl rfl (by kernel_rfl) (fun _ _ _ h => h) (Or.inl ⟨by rfl, ?_⟩) ?_ ?_
        rotate_left
        · intro w'
          go_simp
          with_reducible rfl
        rotate_left
        · simp only [Act.put, List.setIfInBounds_toArray, List.set_cons_zero, List.set_cons_succ, i64_w, i32_w]
          rfl
        refine pure_ (i := 6) (N := some 42) (v := ?_) (a' := ?_) #[true, true, true, true, true, true, true, false, false, false, false, false, false, false, false, false, false] rfl rfl (by kernel_rfl) (fun _ _ _ h => h) (Or.inl ⟨by rfl, ?_⟩) ?_ ?_
        rotate_left
        · intro w'
          go_simp
          with_reducible rfl
        rotate_left
        · simp only [Act.put, List.setIfInBounds_toArray, List.set_cons_zero, List.set_cons_succ, i64_w, i32_w]
          rfl
        refine pure_ (i := 7) (N := some 43) (v := ?_) (a' := ?_) #[true, true, true, true, true, true, true, true, false, false, false, false, false, false, false, false, false] rfl rfl (by kernel_rfl) (fun _ _ _ h => h) (Or.inl ⟨by rfl, ?_⟩) ?_ ?_
        rotate_left
        · intro w'
          go_simp
          with_reducible rfl
        rotate_left
        · simp only [Act.put, List.setIfInBounds_toArray, List.set_cons_zero, List.set_cons_succ, i64_w, i32_w]
          rfl
        refine pure_ (i := 8) (N := some 44) (v := ?_) (a' := ?_) #[true, true, true, true, true, true, true, true, true, false, false, false, false, false, false, false, false] rfl rfl (by kernel_rfl) (fun _ _ _ h => h) (Or.inl ⟨by rfl, ?_⟩) ?_ ?_
        rotate_left
        · intro w'
          go_simp
          with_reducible rfl
        rotate_left
        · simp only [Act.put, List.setIfInBounds_toArray, List.set_cons_zero, List.set_cons_succ, i64_w, i32_w]
          rfl
        refine take_ (i := 9) (N := some 45) (v := ?_) (a' := ?_) #[true, true, true, true, true, true, true, true, true, true, false, false, false, false, false, false, false] rfl rfl (by kernel_rfl) (fun _ _ _ h => h) (Or.inl ⟨by rfl, ?_⟩) hHeld ?_ ?_
        rotate_left
        · rintro w' s0
          obtain ⟨s1, s2⟩ := s0
          go_simp
          with_reducible rfl
        rotate_left
        · simp only [Act.put, List.setIfInBounds_toArray, List.set_cons_zero, List.set_cons_succ, i64_w, i32_w]
          rfl
        refine pure_ (i := 10) (N := some 46) (v := ?_) (a' := ?_) #[true, true, true, true, true, true, true, true, true, true, true, false, false, false, false, false, false] rfl rfl (by kernel_rfl) (fun _ _ _ h => h) (Or.inl ⟨by rfl, ?_⟩) ?_ ?_
        rotate_left
        · intro w'
          go_simp
          with_reducible rfl
        rotate_left
        · simp only [Act.put, List.setIfInBounds_toArray, List.set_cons_zero, List.set_cons_succ, i64_w, i32_w]
          rfl
        refine one_ (i := 11) (N := some 47) #[true, true, true, true, true, true, true, true, true, true, true, true, false, false, false, false, false] rfl rfl (by kernel_rfl) (by decide) (fun K hK => ?_)
        obtain ⟨o1, o2, o3, o4, o5, o6, ho⟩ := one_some (t.extract a.toNat b.toNat)
        refine goes_ Try.func18 (by kernel_rfl) rfl #[.string (t.extract a.toNat b.toNat)] (by rfl) rfl rfl (by (try simp only [List.map_toArray, List.map_cons, List.map_nil]); first | done | rfl) ?_
        refine (glyf_one.calls _ o1 o2 o3 o4 o5 o6 _ ho).mono ?_
        have HO := Lib.hid (show oneP (t.extract a.toNat b.toNat) = (⟨o1, o2, o3, o4, o5⟩, o6) by unfold oneP; rw [ho])
        clear ho
        rintro x w5 ⟨rfl, hb5⟩
        refine ⟨_, rfl, ?_⟩
        have hgd : ga < wd.heap.size := Nat.lt_of_lt_of_le (Nat.lt_of_lt_of_le HGA.out HB.out.size) (by rw [HSD.out]; exact Nat.le_succ _)
        have hBd : wr.heap.size < wd.heap.size := by rw [HSD.out]; exact Nat.lt_succ_self _
        have HH5 := Lib.hid ((hb5.block wr.heap.size hBd).trans HHD.out)
        have BW5 := Lib.hid (BWD.out.trans (hb5.mono (by rw [HSD.out]; exact Nat.le_succ _)))
        refine hK.out _ _ ⟨(hb5.cell hgd).trans hHeld.1, (hb5.cell hgd).trans hHeld.2⟩ (fun hHeld2 => ?_)
        clear hK K hb5 hgd hBd hHeld hHeld2
        refine norm_ (a' := ?_) ?_ ?_
        rotate_left
        · show Act.put _ (some 47) _ = _
          simp only [Act.put, List.setIfInBounds_toArray, List.set_cons_zero, List.set_cons_succ, i64_w, i32_w]
          rfl
        refine pure_ (i := 12) (N := some 35) (v := ?_) (a' := ?_) #[true, true, true, true, true, true, true, true, true, true, true, true, true, false, false, false, false] rfl rfl (by kernel_rfl) (fun _ _ _ h => h) (Or.inl ⟨by rfl, ?_⟩) ?_ ?_
        rotate_left
        · intro w'
          go_simp
          with_reducible rfl
        rotate_left
        · simp only [Act.put, List.setIfInBounds_toArray, List.set_cons_zero, List.set_cons_succ, i64_w, i32_w]
          rfl
        refine pure_ (i := 13) (N := some 48) (v := ?_) (a' := ?_) #[true, true, true, true, true, true, true, true, true, true, true, true, true, true, false, false, false] rfl rfl (by kernel_rfl) (fun _ _ _ h => h) (Or.inl ⟨by rfl, ?_⟩) ?_ ?_
        rotate_left
        · intro w'
          go_simp
          with_reducible rfl
        rotate_left
        · simp only [Act.put, List.setIfInBounds_toArray, List.set_cons_zero, List.set_cons_succ, i64_w, i32_w]
          rfl
        refine pure_ (i := 14) (N := some 49) (v := ?_) (a' := ?_) #[true, true, true, true, true, true, true, true, true, true, true, true, true, true, true, false, false] rfl rfl (by kernel_rfl) (fun _ _ _ h => h) (Or.inl ⟨by rfl, ?_⟩) ?_ ?_
        rotate_left
        · intro w'
          go_simp
          with_reducible rfl
        rotate_left
        · simp only [Act.put, List.setIfInBounds_toArray, List.set_cons_zero, List.set_cons_succ, i64_w, i32_w]
          rfl
        refine last_ (i := 15) (N := none) #[true, true, true, true, true, true, true, true, true, true, true, true, true, true, true, true, false] rfl rfl (by kernel_rfl) (by decide) (fun K hK => ?_)
        obtain ⟨t1, t2, t3, t4⟩ := store_five wr.heap.size w5 HH5.out ⟨o1, o2, o3, o4, o5⟩
        refine skip_ (w1 := w5.setCells wr.heap.size 0 (extCells ⟨o1, o2, o3, o4, o5⟩)) (by rfl) rfl ?_ ?_
        · unfold execOp
          simp only [Act.eval, Sem.run_bind]
          first
          | (rw [show (Instr.storeAt _ _ _).run _ _ = _ from t1]; rfl)
          | (simp [t1, Result.andThen]; done)
          | skip
        refine hK.out _ _ ?_
        clear hK K
        have HT2 := Lib.hid t2
        have HT3 := Lib.hid t3
        have HT4 := Lib.hid t4
        clear t1 t2 t3 t4
        refine pure_ (i := 16) (N := some 11) (v := ?_) (a' := ?_) #[true, true, true, true, true, true, true, true, true, true, true, true, true, true, true, true, true] rfl rfl (by kernel_rfl) (fun _ _ _ h => h) (Or.inl ⟨by rfl, ?_⟩) ?_ ?_
        rotate_left
        · intro w'
          go_simp
          with_reducible rfl
        rotate_left
        · simp only [Act.put, List.setIfInBounds_toArray, List.set_cons_zero, List.set_cons_succ, i64_w, i32_w]
          rfl
        refine done_ (by kernel_rfl) ?_
        obtain ⟨W6, hW6⟩ : ∃ W6, W6 = w5.setCells wr.heap.size 0 (extCells ⟨o1, o2, o3, o4, o5⟩) := ⟨_, rfl⟩
        rw [← hW6] at HT2 HT3 HT4 ⊢
        have HB6 := Lib.hid (show Below wr.heap.size wr W6 from BW5.out.trans HT3.out)
        have HX6 := Lib.hid (show Kd.R k30 30 W6 w1.heap.size (fun _ => True) (.slice Ax xs.length kx) xs from Kd.R_below HX.out HB6.out)
        obtain ⟨c0, c1, c2, c3, c4⟩ := five_cells HT2.out
        dsimp only at c0 c1 c2 c3 c4
        clear hW6 h0a hab hbt
        by_cases h6 : o6 = 0
        · subst h6
          have HGN := Lib.hid (going_on HGO.out HDR.out HDR1.out (by have := H1.out; omega) (by have := H2.out; omega) HO.out)
          have HB7 := Lib.hid (HB.out.trans (HB6.out.mono HB.out.size))
          have HLX := Lib.hid (len_ext (n := xs.length) (by rw [HXL.out]; have := HG.out; omega))
          go_wp2_with (at_builtin; go_loud (refine Kd.R_append k30 (w0 := w1) w1.heap.size rfl (.tmp 72) (.tmp 74) 22 30 (.agg #[.bool false, .int .i64 0, .int .i64 0, .int .i64 0, .int .i64 0]) 40 rfl Try.underlying22 info30 rfl (by decide) (by decide) _ xs ⟨o1, o2, o3, o4, o5⟩ [.bool o1, .int .i64 o2, .int .i64 o3, .int .i64 o4, .int .i64 o5] (fun _ => True) (fun _ => False) rfl rfl (k30_mkM _ _ _ ⟨o1, o2, o3, o4, o5⟩) (fun _ hk => hk.elim) (fun _ _ => trivial) HX6.out HB7.out HB7.out.size HLX.out ?_))
          intro v1 w7 hv7 hb7 hg7 hat7
          obtain ⟨A7, k7, rfl⟩ := Kd.R_slice hv7
          have HV7 := Lib.hid hv7
          have HB8 := Lib.hid hb7
          clear hv7 hb7 hg7 hat7
          go_wp2
          go_roundw
          case rel => exact ⟨i + 1, xs ++ [⟨o1, o2, o3, o4, o5⟩], hlt, by rw [hwi], rfl, ⟨by have := HXL.out; simp [this]⟩, ⟨HV7.out⟩, ⟨HB8.out⟩, ⟨HGN.out⟩⟩
          case measure => rw [hwi]; exact less_step (by decide) hlt
        · have d8 : (o6 != 0) = true := by simp [h6]
          have hres : r = ([], o6) := going_err HGO.out o6 h6 (by rw [HDR.out]; unfold getsN; rw [if_neg (by have := H1.out; omega), if_neg (by have := H2.out; omega), HO.out, if_pos h6])
          have HRE := Lib.hid hres
          have HB9 := Lib.hid (HB1.out.trans ((HB.out.trans (HB6.out.mono HB.out.size)).mono HB1.out.size))
          clear hres h6
          go_wp2
          (try rw [Exit.noGoto_ret])
          go_ret2
          rw [HRE.out]
          exact ⟨_, rfl, Kd.R_nil _ _ _ _ _, HB9.out⟩
      · have hie : i = g := by omega
        have d5 : decide ((i : Int) < (g : Int)) = false := decide_eq_false (by omega)
        have hres : r = (xs, 0) := by
          have h := HGO.out
          unfold Going at h
          have hd : ∃ z, L.drop i = [z] := by
            have hl := HLEN.out
            exact ⟨L[i]'(by omega), by rw [List.drop_eq_getElem_cons (by omega), List.drop_eq_nil_of_le (by omega)]⟩
          obtain ⟨z, hd⟩ := hd
          rw [hd] at h
          simp only [getsN] at h
          rw [if_pos trivial, List.append_nil] at h
          exact h.symm
        have HRE := Lib.hid hres
        obtain ⟨Ax, kx, rfl⟩ := Kd.R_slice HX.out
        have HR9 := Lib.hid (Kd.R_lower HX.out HB1.out.size)
        have HB9 := Lib.hid (HB1.out.trans (HB.out.mono HB1.out.size))
        clear hres hie
        go_wp2
        (try rw [Exit.noGoto_ret])
        go_ret2
        rw [HRE.out]
        exact ⟨_, rfl, HR9.out, HB9.out⟩
  · have d8 : (e != 0) = true := by simp [he]
    have hres : r = ([], e) := by rw [← HR.out]; unfold getX; rw [HL.out, if_pos he]
    have HRE := Lib.hid hres
    obtain ⟨Ax, kx, rfl⟩ := Kd.R_slice hv
    clear hres hv he
    go_wp2
    (try rw [Exit.noGoto_ret])
    go_ret2
    rw [HRE.out]
    exact ⟨_, rfl, Kd.R_nil _ _ _ _ _, HB1.out⟩
theorem glyf_get_arg (s t : ByteArray) (g : Int) (far : Bool) (w : World) (h : g < 1 ∨ 65535 < g) :
    Calls Try.prog 7 #[.string s, .string t, .int .i64 g, .bool far] w fun e w' => ∃ v0_ : Value, e = .returned (.tuple #[v0_, .int .i64 1]) ∧ Kd.R k30 30 w' w.heap.size (fun _ => True) v0_ [] ∧ Below w.heap.size w w' := by
  by_cases h1 : g < 1
  · have d1 : decide (g < 1) = true := decide_eq_true h1
    clear h
    go_enter Try.func7, Try.ntmps7
    go_wp2_with fail
    go_step3
    go_wp2
    (try rw [Exit.noGoto_ret])
    go_ret2
    exact ⟨_, rfl, Kd.R_nil _ _ _ _ _, Below.refl _ _⟩
  · have d1 : decide (g < 1) = false := decide_eq_false h1
    have d2 : decide (65535 < g) = true := decide_eq_true (by omega)
    clear h
    go_enter Try.func7, Try.ntmps7
    go_wp2_with fail
    go_step3
    go_wp2
    (try rw [Exit.noGoto_ret])
    go_ret2
    exact ⟨_, rfl, Kd.R_nil _ _ _ _ _, Below.refl _ _⟩
theorem glyf_Get.calls (a0 : ByteArray) (a1 : ByteArray) (a2 : Int) (a3 : Bool) (r1 : List S30) (r2 : Int) (w : World) (h : glyf_Get.f a0 a1 a2 a3 = some (r1, r2)) :
    Calls Try.prog 7 #[.string a0, .string a1, .int .i64 a2, .bool a3] w fun e w' => ∃ v0_ : Value, e = .returned (.tuple #[v0_, .int .i64 r2]) ∧ Kd.R k30 30 w' w.heap.size (fun _ => True) v0_ r1 ∧ Below w.heap.size w w' := by
  unfold glyf_Get.f at h
  split at h
  · rename_i hb
    obtain ⟨rfl, rfl⟩ := Prod.mk.inj (Option.some.inj h)
    exact glyf_get_arg a0 a1 a2 a3 w hb
  · rename_i hb
    obtain ⟨g, rfl⟩ := Int.eq_ofNat_of_zero_le (show 0 ≤ a2 by omega)
    exact glyf_get_walk a0 a1 g a3 (by omega) (by omega) w (r1, r2) (Option.some.inj h)
end Go.Proofs.Ytjmliafplgjkhaa.P
