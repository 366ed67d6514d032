/- Words, contracts and plain facts of the proof. Each says its own condition. -/
import Derived.Test.YtejdflndgnpkcaaZCmapRecordse
import Derived.Test.YtejdflndgnpkcaaZCmapRecordsk
import Derived.Test.YtejdflndgnpkcaaZCmapRecordsl
import Derived.Test.YtejdflndgnpkcaaZCmapRecordsn
import Derived.Test.YtejdflndgnpkcaaZCmapRecordso
import Derived.Test.YtejdflndgnpkcaaZCmapRecordsg
import Derived.Test.YtejdflndgnpkcaaZCmapRecordsh
set_option linter.unusedVariables false
set_option linter.unusedSimpArgs false
section
namespace Go.Proofs.Ytejdflndgnpkcaa.P
open Go.RowKit Go.Proofs.YtejdflndgnpkcaaW.PrintWords Go.Proofs.YtejdflndgnpkcaaW.PrintLast Go.Proofs.YtejdflndgnpkcaaW.PrintMore
attribute [local go_sem] max2_int min2_int max_two min_two max_three min_three max_four min_four
def chart_Look.f (l0 : List (S50)) (a1 : Int) : Option (Int) := (chart_Is.f l0).bind fun t229 => (if t229 = true then ((chart_look.f l0 a1).bind fun t230 => (some t230)) else (some 0))
set_option maxHeartbeats 8000000 in
set_option maxRecDepth 100000 in
theorem chart_Look.calls (A0 : Option Addr) (c0 : Nat) (l0 : List (S50)) (a1 : Int) (r : Int) (w : World) (hr0 : Kd.C k50 w A0 l0.length l0) (hc0 : l0.length ≤ c0) (h : chart_Look.f l0 a1 = some r) :
  Calls Try.prog 16 #[.slice A0 l0.length c0, .int .i64 a1] w fun e w' => e = .returned (.int .i64 r) ∧ Below w.heap.size w w' := by
 have HR0 := Aside0.mk hr0
 have HC0 := Aside0.mk hc0
 clear hr0 hc0
 have HB := Aside0.mk (Below.refl w.heap.size w)
 have H : ((chart_Is.f l0).bind fun t229 => (if t229 = true then ((chart_look.f l0 a1).bind fun t230 => (some t230)) else (some 0))) = some r := h
 clear h
 replace H := Option.bind_eq_some_iff.mp H
 obtain ⟨t229, A30, H⟩ := H
 try dsimp only at H
 have A3 := Aside0.mk A30
 clear A30
 by_cases c4 : t229 = true
 ·
  subst c4
  rw [if_pos rfl] at H
  replace H := Option.bind_eq_some_iff.mp H
  obtain ⟨t230, A50, H⟩ := H
  try dsimp only at H
  have A5 := Aside0.mk A50
  clear A50
  obtain rfl := Option.some.inj H
  go_enter Try.func16, Try.ntmps16
  go_wp2_with (first | ((with_reducible refine gate_callee (f := 15) rfl ?_); refine gL_ 6 Try.func15 #[.slice A0 l0.length c0] ?_; (with_reducible refine (chart_Is.calls _ _ l0 true _ ?side1 ?side2 A3.out).mono ?_); (case side1 => exact cA HR0.out); (case side2 => exact HC0.out); rintro e w6 ⟨rfl, hb⟩; refine ⟨_, rfl, ?_⟩; have n0_ := Aside0.mk (below_step bA hb); clear HB; have HB := n0_; clear n0_; (try clear hb)) | ((with_reducible refine gate_callee (f := 32) rfl ?_); refine gL_ 10 Try.func32 #[.slice A0 l0.length c0, .int .i64 a1] ?_; (with_reducible refine (chart_look.calls _ _ l0 a1 t230 _ ?side1 ?side2 A5.out).mono ?_); (case side1 => repeat (first | exact (Kd.C_below HR0.out HB.out) | (with_reducible refine Kd.C_alloc ?_ _) | (with_reducible refine Kd.C_drewN ?_ _) | (with_reducible refine Kd.C_drew ?_))); (case side2 => exact HC0.out); rintro e w7 ⟨rfl, hb⟩; refine ⟨_, rfl, ?_⟩; have n0_ := Aside0.mk (below_step bA hb); clear HB; have HB := n0_; clear n0_; (try clear hb)))
  go_ret
  exact ⟨eA, bA⟩
 ·
  replace c4 := Bool.eq_false_iff.mpr c4
  subst c4
  rw [if_neg Bool.false_ne_true] at H
  obtain rfl := Option.some.inj H
  go_enter Try.func16, Try.ntmps16
  go_wp2_with (first | ((with_reducible refine gate_callee (f := 15) rfl ?_); refine gL_ 6 Try.func15 #[.slice A0 l0.length c0] ?_; (with_reducible refine (chart_Is.calls _ _ l0 false _ ?side1 ?side2 A3.out).mono ?_); (case side1 => exact cA HR0.out); (case side2 => exact HC0.out); rintro e w8 ⟨rfl, hb⟩; refine ⟨_, rfl, ?_⟩; have n0_ := Aside0.mk (below_step bA hb); clear HB; have HB := n0_; clear n0_; (try clear hb)))
  go_ret
  exact ⟨eA, bA⟩
end Go.Proofs.Ytejdflndgnpkcaa.P
end
section
namespace Go.Proofs.Ytejdflndgnpkcaa.P
open Go.RowKit Go.Proofs.YtejdflndgnpkcaaW.PrintWords Go.Proofs.YtejdflndgnpkcaaW.PrintLast Go.Proofs.YtejdflndgnpkcaaW.PrintMore
theorem rd_get (l : List S50) (i : Nat) (h : i < l.length) : rd_T50 l (i : Int) = l[i] := by
 rw [rd_atS, atS_get l i h]
theorem one_ref (x : S50) : vinculumref08_one.f x.f0 x.f1 x.f2 x.f3 = some (rightN x) := by
 obtain ⟨a, b, c, s⟩ := x
 unfold vinculumref08_one.f rightN
 simp only
 by_cases h1 : a < 0
 · rw [if_pos h1, decide_eq_false (show ¬ 0 ≤ a by omega), Bool.false_and]
 rw [if_neg h1, decide_eq_true (show 0 ≤ a by omega), Bool.true_and]
 by_cases h2 : b < a
 · rw [if_pos h2, decide_eq_false (show ¬ a ≤ b by omega), Bool.false_and]
 rw [if_neg h2, decide_eq_true (show a ≤ b by omega), Bool.true_and]
 by_cases h3 : b > 1114111
 · rw [if_pos h3, decide_eq_false (show ¬ b ≤ 1114111 by omega), Bool.false_and]
 rw [if_neg h3, decide_eq_true (show b ≤ 1114111 by omega), Bool.true_and]
 have hs : (s == 0 || s == 1) = (decide (0 ≤ s) && decide (s ≤ 1)) := by
  rw [Bool.eq_iff_iff]
  simp only [Bool.or_eq_true, Bool.and_eq_true, beq_iff_eq, decide_eq_true_eq]
  omega
 rw [hs]
 by_cases h4 : s < 0
 · rw [if_pos h4, decide_eq_false (show ¬ 0 ≤ s by omega), Bool.false_and, Bool.false_and]
 rw [if_neg h4, decide_eq_true (show 0 ≤ s by omega), Bool.true_and]
 by_cases h5 : s > 1
 · rw [if_pos h5, decide_eq_false (show ¬ s ≤ 1 by omega), Bool.false_and]
 rw [if_neg h5, decide_eq_true (show s ≤ 1 by omega), Bool.true_and]
 by_cases h6 : c < 0
 · rw [if_pos h6, decide_eq_false (show ¬ 0 ≤ c by omega), Bool.false_and]
 rw [if_neg h6, decide_eq_true (show 0 ≤ c by omega), Bool.true_and]
 by_cases h7 : c > 65535
 · rw [if_pos h7, decide_eq_false (show ¬ c ≤ 65535 by omega), Bool.false_and]
 rw [if_neg h7, decide_eq_true (show c ≤ 65535 by omega), Bool.true_and, glyph_bound (by omega) (by omega) (by omega) (by omega) (by omega) s (by omega)]
def isFrom (l : List S50) (i : Nat) : Bool := (l.drop i).all rightN && ordN (l.drop (i - 1))
theorem is_loop (l : List S50) (hl : l.length ≤ 65536) (d : Nat) : ∀ k i, l.length - i = d → i ≤ l.length → 2 * d + 3 ≤ k → vinculumref08_Is.l0 k l (i : Int) = some (isFrom l i) := by
 induction d with
 | zero =>
  intro k i hd hi hk
  obtain ⟨k, rfl⟩ : ∃ n, k = n + 2 := ⟨k - 2, by omega⟩
  have : i = l.length := by omega
  subst this
  simp only [vinculumref08_Is.l0]
  rw [if_neg (by omega)]
  simp only [vinculumref08_Is.j1]
  rw [if_neg Bool.false_ne_true, decide_eq_true (show (l.length : Int) ≤ 65536 by omega)]
  unfold isFrom
  rw [List.drop_length, List.all_nil, Bool.true_and]
  by_cases h0 : l.length = 0
  · rw [List.length_eq_zero_iff.1 h0]; rfl
  · rw [ord_last l (l.length - 1) (by omega)]
 | succ d ih =>
  intro k i hd hi hk
  obtain ⟨k, rfl⟩ : ∃ n, k = n + 2 := ⟨k - 2, by omega⟩
  have hlt : i < l.length := by omega
  have hw : wrap64 ((i : Int) + 1) = ((i + 1 : Nat) : Int) := by unfold wrap64; omega
  have hw1 : wrap64 ((i : Int) - 1) = (i : Int) - 1 := by unfold wrap64; omega
  have ih' := ih k (i + 1) (by omega) (by omega) (by omega)
  simp only [vinculumref08_Is.l0]
  rw [if_pos (by omega), decide_eq_true (show (l.length : Int) ≤ 65536 by omega)]
  simp only [vinculumref08_Is.j1]
  rw [if_pos trivial, if_pos (by omega), if_pos (by omega), one_ref]
  simp only [Option.bind_some]
  rw [rd_get l i hlt, hw, hw1, ih']
  have e1 : (l.drop i).all rightN = (rightN l[i] && (l.drop (i + 1)).all rightN) := by rw [List.drop_eq_getElem_cons hlt, List.all_cons]
  cases hx : rightN l[i] with
  | false =>
   rw [if_neg Bool.false_ne_true]
   unfold isFrom
   rw [e1, hx, Bool.false_and, Bool.false_and]
  | true =>
   rw [if_pos rfl]
   unfold isFrom
   rw [e1, hx, Bool.true_and, Nat.add_sub_cancel]
   by_cases h0 : (i : Int) > 0
   ·
    obtain ⟨j, rfl⟩ : ∃ j, i = j + 1 := ⟨i - 1, by omega⟩
    have hj : ((j + 1 : Nat) : Int) - 1 = (j : Int) := by omega
    rw [if_pos h0, hj, if_pos (by omega), if_pos (by omega), rd_get l j (by omega), Nat.add_sub_cancel, ord_at l j hlt]
    by_cases hle : l[j + 1].f0 ≤ l[j].f1
    · rw [if_pos hle, decide_eq_false (show ¬ l[j].f1 < l[j + 1].f0 by omega), Bool.false_and, Bool.and_false]
    · rw [if_neg hle, decide_eq_true (show l[j].f1 < l[j + 1].f0 by omega), Bool.true_and]
   ·
    have : i = 0 := by omega
    subst this
    rw [if_neg h0]
theorem is_ref8 (l : List S50) (k : Nat) (hk : 131100 ≤ k ∨ l.length ≤ 300 ∧ 700 ≤ k) : vinculumref08_Is.f k l = some (isL l) := by
 unfold vinculumref08_Is.f
 by_cases hl : l.length ≤ 65536
 ·
  have := is_loop l hl l.length k 0 rfl (by omega) (by omega)
  refine Eq.trans this ?_
  unfold isFrom isL
  rw [List.drop_zero, decide_eq_true hl, Bool.true_and]
 ·
  obtain ⟨k, rfl⟩ : ∃ n, k = n + 2 := ⟨k - 2, by omega⟩
  simp only [vinculumref08_Is.l0]
  rw [if_pos (by omega), decide_eq_false (show ¬ (l.length : Int) ≤ 65536 by omega)]
  simp only [vinculumref08_Is.j1]
  rw [if_neg Bool.false_ne_true, decide_eq_false (show ¬ (l.length : Int) ≤ 65536 by omega)]
  unfold isL
  rw [decide_eq_false hl, Bool.false_and]
def endsR (l : List S50) : Int × Int × Bool := if (endsN l).2.2 = true then endsN l else (-1, -1, false)
theorem has_skip {x : S50} (hx : rightN x = true) : hasN x = !((x.f2 == 0 && x.f3 == 0) || decide ((if x.f2 = 0 then x.f0 + 1 else x.f0) > x.f1)) := by
 obtain ⟨a0, a1, a2, a3, a4, a5, a6⟩ := (right_iff x).1 hx
 rw [Bool.eq_iff_iff, has_iff hx]
 simp only [Bool.not_eq_true', Bool.or_eq_false_iff, Bool.and_eq_false_iff, beq_eq_false_iff_ne, decide_eq_false_iff_not]
 by_cases h : x.f2 = 0
 · rw [if_pos h]; omega
 · rw [if_neg h]; omega
theorem fst_from {x : S50} (hx : rightN x = true) (hh : hasN x = true) : fstAt x = if x.f2 = 0 then x.f0 + 1 else x.f0 := by
 have h2 := (has_iff hx).1 hh
 rw [fst_val hx]
 by_cases h : x.f2 = 0
 · rw [if_pos h, if_pos h]; omega
 · rw [if_neg h, if_neg h]
theorem ends_round (l : List S50) (i : Nat) (hlt : i < l.length) (hi : i ≤ 65536) (hx : rightN l[i] = true) (a b : Int) (k : Nat) : vinculumref08_ends.l0 (k + 3) l a b (i : Int) = if hasN l[i] = true then vinculumref08_ends.l0 k l (if a < 0 then fstAt l[i] else a) l[i].f1 ((i + 1 : Nat) : Int) else vinculumref08_ends.l0 k l a b ((i + 1 : Nat) : Int) := by
 obtain ⟨a0, a1, a2, a3, a4, a5, a6⟩ := (right_iff l[i]).1 hx
 have hw : wrap64 ((i : Int) + 1) = ((i + 1 : Nat) : Int) := by unfold wrap64; omega
 have hw1 : wrap64 (l[i].f0 + 1) = l[i].f0 + 1 := by unfold wrap64; omega
 have hs := has_skip hx
 have hj : ∀ (f : Int) (q : Bool), (hasN l[i] = true → f = fstAt l[i]) → q = !hasN l[i] → vinculumref08_ends.j2 (k + 1) l a b (i : Int) f q = if hasN l[i] = true then vinculumref08_ends.l0 k l (if a < 0 then fstAt l[i] else a) l[i].f1 ((i + 1 : Nat) : Int) else vinculumref08_ends.l0 k l a b ((i + 1 : Nat) : Int) := fun f q hf hq => by
  simp only [vinculumref08_ends.j2]
  rw [hw, rd_get l i hlt, if_pos (show 0 ≤ (i : Int) by omega), if_pos (show (i : Int) < (l.length : Int) by omega), if_pos (show 0 ≤ (i : Int) by omega), if_pos (show (i : Int) < (l.length : Int) by omega)]
  cases hh : hasN l[i] with
  | false => rw [hq, hh, if_pos (by decide), if_neg Bool.false_ne_true]
  | true =>
   rw [hq, hh, if_neg (by decide), if_pos rfl, hf hh]
   by_cases ha : a < 0
   · rw [if_pos ha, if_pos ha]
   · rw [if_neg ha, if_neg ha]
 simp only [vinculumref08_ends.l0]
 rw [if_pos (show (i : Int) < (l.length : Int) by omega), if_pos (show 0 ≤ (i : Int) by omega), rd_get l i hlt, hw1]
 by_cases h2 : l[i].f2 = 0
 ·
  rw [if_pos h2]
  simp only [vinculumref08_ends.j1]
  rw [if_pos (show 0 ≤ (i : Int) by omega), if_pos (show (i : Int) < (l.length : Int) by omega), rd_get l i hlt, if_pos h2]
  rw [if_pos h2] at hs
  by_cases h3 : l[i].f3 = 0
  ·
   rw [if_pos h3]
   refine hj _ _ (fun hh => by rw [fst_from hx hh, if_pos h2]) ?_
   rw [hs, h2, h3]; rfl
  ·
   rw [if_neg h3]
   refine hj _ _ (fun hh => by rw [fst_from hx hh, if_pos h2]) ?_
   rw [hs, beq_eq_false_iff_ne.2 h3, Bool.and_false, Bool.false_or, Bool.not_not]
 ·
  rw [if_neg h2]
  simp only [vinculumref08_ends.j1]
  rw [if_pos (show 0 ≤ (i : Int) by omega), if_pos (show (i : Int) < (l.length : Int) by omega), rd_get l i hlt, if_neg h2]
  rw [if_neg h2] at hs
  refine hj _ _ (fun hh => by rw [fst_from hx hh, if_neg h2]) ?_
  rw [hs, beq_eq_false_iff_ne.2 h2, Bool.false_and, Bool.false_or, Bool.not_not]
theorem ends_after (l : List S50) (hl : l.length ≤ 65536) (hr : ∀ x ∈ l, rightN x = true) (a : Int) (ha : 0 ≤ a) (d : Nat) : ∀ k i b, l.length - i = d → i ≤ l.length → 3 * d + 1 ≤ k → vinculumref08_ends.l0 k l a b (i : Int) = some (a, lastN b (l.drop i), true) := by
 induction d with
 | zero =>
  intro k i b hd hi hk
  obtain ⟨k, rfl⟩ : ∃ n, k = n + 1 := ⟨k - 1, by omega⟩
  have : i = l.length := by omega
  subst this
  simp only [vinculumref08_ends.l0]
  rw [if_neg (by omega), List.drop_length, decide_eq_true (show a ≥ 0 from ha)]
  rfl
 | succ d ih =>
  intro k i b hd hi hk
  obtain ⟨k, rfl⟩ : ∃ n, k = n + 3 := ⟨k - 3, by omega⟩
  have hlt : i < l.length := by omega
  rw [ends_round l i hlt (by omega) (hr _ (List.getElem_mem hlt)) a b k, List.drop_eq_getElem_cons hlt, last_step, if_neg (show ¬ a < 0 by omega), ih k (i + 1) _ (by omega) (by omega) (by omega), ih k (i + 1) _ (by omega) (by omega) (by omega)]
  cases hasN l[i] <;> rfl
theorem ends_before (l : List S50) (hl : l.length ≤ 65536) (hr : ∀ x ∈ l, rightN x = true) (d : Nat) : ∀ k i, l.length - i = d → i ≤ l.length → 3 * d + 1 ≤ k → vinculumref08_ends.l0 k l (-1) (-1) (i : Int) = some (endsR (l.drop i)) := by
 induction d with
 | zero =>
  intro k i hd hi hk
  obtain ⟨k, rfl⟩ : ∃ n, k = n + 1 := ⟨k - 1, by omega⟩
  have : i = l.length := by omega
  subst this
  simp only [vinculumref08_ends.l0]
  rw [if_neg (by omega), List.drop_length]
  rfl
 | succ d ih =>
  intro k i hd hi hk
  obtain ⟨k, rfl⟩ : ∃ n, k = n + 3 := ⟨k - 3, by omega⟩
  have hlt : i < l.length := by omega
  have hx := hr _ (List.getElem_mem hlt)
  rw [ends_round l i hlt (by omega) hx (-1) (-1) k, ih k (i + 1) (by omega) (by omega) (by omega), List.drop_eq_getElem_cons hlt, if_pos (show (-1 : Int) < 0 by decide)]
  cases hh : hasN l[i] with
  | false =>
   rw [if_neg Bool.false_ne_true]
   unfold endsR
   conv => rhs; unfold endsN
   rw [hh, if_neg Bool.false_ne_true]
  | true =>
   rw [if_pos rfl, ends_after l hl hr (fstAt l[i]) (fst_in hx hh).1 d k (i + 1) l[i].f1 (by omega) (by omega) (by omega)]
   unfold endsR endsN
   rw [hh, if_pos rfl, if_pos rfl, last_step, hh, if_pos rfl]
theorem ends_ref {l : List S50} (h : isL l = true) (k : Nat) (hk : 3 * l.length + 1 ≤ k) : vinculumref08_ends.f k l = some (endsR l) := by
 obtain ⟨h1, h2, _⟩ := isL_all h
 exact ends_before l h1 h2 l.length k 0 rfl (by omega) hk
def glyphOf (l : List S50) (c : Int) : Int := if isL l = true then lookN l c else 0
theorem look_told (l : List S50) (c : Int) : chart_Look.f l c = some (glyphOf l c) := by
 unfold chart_Look.f chart_Is.f glyphOf
 rw [Option.bind_some]
 cases h : isL l with
 | false => rw [if_neg Bool.false_ne_true, if_neg Bool.false_ne_true]
 | true =>
  rw [if_pos rfl, if_pos rfl]
  unfold chart_look.f
  rw [if_pos (isL_all h).1]
  rfl
end Go.Proofs.Ytejdflndgnpkcaa.P
end
section
namespace Go.Proofs.Ytejdflndgnpkcaa.P
open Go.RowKit Go.Proofs.YtejdflndgnpkcaaW.PrintWords Go.Proofs.YtejdflndgnpkcaaW.PrintLast Go.Proofs.YtejdflndgnpkcaaW.PrintMore
theorem bytes_two {v : Int} (h0 : 0 ≤ v) (h1 : v ≤ 65535) (k : Nat) (hk : 16 ≤ k) : vinculumref03_Bytes.f k v 2 = some ⟨(bytesN v 2).toArray⟩ := by
 have e : (256 : Int) ^ 2 = 65536 := by decide
 exact bytesN_told v 2 (by simp) (by rw [e]; omega) (by rw [e]; omega) k hk
end Go.Proofs.Ytejdflndgnpkcaa.P
end
section
namespace Go.Proofs.Ytejdflndgnpkcaa.P
open Go.RowKit Go.Proofs.YtejdflndgnpkcaaW.PrintWords Go.Proofs.YtejdflndgnpkcaaW.PrintLast Go.Proofs.YtejdflndgnpkcaaW.PrintMore
attribute [local go_sem] max2_int min2_int max_two min_two max_three min_three max_four min_four
def chart_spans.l0 : Nat → Int → List (S50) → List Int → Int → Int → Option ((List (S50)))
 | 0, _, _, _, _, _ => none
 | k + 1, x0, x5, x8, x9, x10 => if x10 < x9 then (if 0 ≤ x10 then (if x10 < (x8.length : Int) then (if (rd x8 x10) = 0 then (chart_spans.l0 k x0 x5 x8 x9 (wrap64 (x10 + 1))) else (if x5.length < 4398046511104 then (chart_spans.l0 k x0 (x5 ++ [(⟨wrap64 (x0 + x10), wrap64 (x0 + x10), rd x8 x10, 1⟩ : S50)]) x8 x9 (wrap64 (x10 + 1))) else (none))) else (none)) else (none)) else (some x5)
def chart_spans.f (k : Nat) (a0 : Int) (l1 : List Int) : Option ((List (S50))) := chart_spans.l0 k a0 ([] : List (S50)) l1 (l1.length : Int) 0
set_option maxHeartbeats 8000000 in
set_option maxRecDepth 100000 in
theorem chart_spans.calls (k : Nat) (a0 : Int) (A1 : Option Addr) (c1 : Nat) (l1 : List Int) (r : List (S50)) (w : World) (hr1 : Kd.C (Kd.int .i64) w A1 l1.length l1) (hc1 : l1.length ≤ c1) (h : chart_spans.f k a0 l1 = some r) :
  Calls Try.prog 81 #[.int .i64 a0, .slice A1 l1.length c1] w fun e w' => ∃ v0_ : Value, e = .returned (v0_) ∧ Kd.R k50 50 w' w.heap.size (fun _ => True) v0_ r ∧ Below w.heap.size w w' := by
 have hu50 := Try.underlying50
 have HR1 := Aside0.mk hr1
 have HC1 := Aside0.mk hc1
 clear hr1 hc1
 have HB := Aside0.mk (Below.refl w.heap.size w)
 have H : (chart_spans.l0 k a0 ([] : List (S50)) l1 (l1.length : Int) 0) = some r := h
 clear h
 have H' := Aside0.mk H
 clear H
 go_enter Try.func81, Try.ntmps81
 go_wp2
 go_loopg [5, 10] k (fun kq v5 v10 w' => ∃ (x5_1 : List (S50)) (x10_1 : Int), v10 = .int .i64 x10_1 ∧ Aside0 (chart_spans.l0 kq a0 x5_1 l1 (l1.length : Int) x10_1 = some r) ∧ Aside0 (kq ≤ k) ∧ Aside0 (Kd.R k50 50 w' w.heap.size (fun _ => True) v5 x5_1) ∧ Aside0 (Below w.heap.size w w'))
 case atStart => exact ⟨(([] : List (S50))), (0), gA, H', ⟨Nat.le_refl _⟩, ⟨nA⟩, ⟨bA⟩⟩
 case round =>
  clear H'
  try clear c1
  try clear p2
  obtain ⟨x5_1, x10_1, rfl, HA, HK1, HO_5, HB⟩ := hrel
  cases gk with
  | zero => exact absurd HA.out (by simp [chart_spans.l0])
  | succ k1 =>
   have H := HA.out
   clear HA
   simp only [chart_spans.l0] at H
   by_cases c3 : x10_1 < (l1.length : Int)
   ·
    rw [if_pos c3] at H
    have c3b0 : decide (x10_1 < (l1.length : Int)) = true := decide_eq_true c3
    clear c3
    by_cases c4 : 0 ≤ x10_1
    ·
     rw [if_pos c4] at H
     have c4b0 : decide (0 ≤ x10_1) = true := decide_eq_true c4
     clear c4
     by_cases c5 : x10_1 < (l1.length : Int)
     ·
      rw [if_pos c5] at H
      have c5b0 : decide (x10_1 < (l1.length : Int)) = true := decide_eq_true c5
      clear c5
      by_cases c6 : (rd l1 x10_1) = 0
      ·
       rw [if_pos c6] at H
       have c6b0 : ((rd l1 x10_1) == 0) = true := beq_iff_eq.mpr c6
       have c6b1 : ((rd l1 x10_1) != 0) = false := bne_eq_false_iff_eq.mpr c6
       clear c6
       have H' := Aside0.mk H
       clear H
       have p130 : 0 ≤ (x10_1 : Int) := of_decide_eq_true sA
       have q130 : x10_1 < (l1.length : Int) := of_decide_eq_true sA
       obtain ⟨ad130, e130, hx130_0⟩ := Kd.at_int HR1.out x10_1 p130 q130
       cases e130
       replace hx130_0 := (HB.out.cell (World.block_lt_of_cell? w _ hx130_0)).trans hx130_0
       replace p130 := eq_true p130
       replace q130 := eq_true q130
       go_wp2
       go_roundg k1
       case measure => have := HK1.out; omega
       case rel => exact ⟨(x5_1), (wrap64 (x10_1 + 1)), gA, H', ⟨by have := HK1.out; omega⟩, ⟨by (with_reducible repeat (first | apply Kd.R_alloc | apply Kd.R_drewN | apply Kd.R_drew)); exact HO_5.out⟩, ⟨bA⟩⟩
      ·
       rw [if_neg c6] at H
       have c6b0 : ((rd l1 x10_1) == 0) = false := beq_eq_false_iff_ne.mpr c6
       have c6b1 : ((rd l1 x10_1) != 0) = true := bne_iff_ne.mpr c6
       by_cases c7 : x5_1.length < 4398046511104
       ·
        rw [if_pos c7] at H
        have LMc7 := Aside0.mk c7
        clear c7
        obtain ⟨y131, hy131⟩ : ∃ y_ : List (S50), y_ = (x5_1 ++ [(⟨wrap64 (a0 + x10_1), wrap64 (a0 + x10_1), rd l1 x10_1, 1⟩ : S50)]) := ⟨_, rfl⟩
        replace H : (chart_spans.l0 k1 a0 y131 l1 (l1.length : Int) (wrap64 (x10_1 + 1))) = some r := by first | (rw [hy131]; with_reducible exact H) | (have H2_ := (Option.bind_some _ _).symm.trans H; rw [hy131]; with_reducible exact H2_) | (have H2_ := (Option.bind_some _ _).symm.trans H; with_reducible exact H2_) | with_reducible exact H | (rw [hy131]; exact H) | exact H
        have Ny131 := Aside0.mk hy131
        clear hy131
        have H' := Aside0.mk H
        clear H
        have p130 : 0 ≤ (x10_1 : Int) := of_decide_eq_true sA
        have q130 : x10_1 < (l1.length : Int) := of_decide_eq_true sA
        obtain ⟨ad130, e130, hx130_0⟩ := Kd.at_int HR1.out x10_1 p130 q130
        cases e130
        replace hx130_0 := (HB.out.cell (World.block_lt_of_cell? w _ hx130_0)).trans hx130_0
        replace p130 := eq_true p130
        replace q130 := eq_true q130
        go_wp2_with (first | ((with_reducible refine gate_builtin (b := .append) (xs := #[.tmp 17, .tmp 26]) rfl ?_); at_builtin; refine Kd.R_append k50 (w0 := w) w.heap.size rfl (.tmp 17) (.tmp 26) 22 50 (.agg #[(.int .i64 0), (.int .i64 0), (.int .i64 0), (.int .i64 0)]) 32 rfl Try.underlying22 info50 rfl (by decide) (by omega) u5 x5_1 (⟨wrap64 (a0 + x10_1), wrap64 (a0 + x10_1), rd l1 x10_1, 1⟩ : S50) [.int .i64 (wrap64 (a0 + x10_1)), .int .i64 (wrap64 (a0 + x10_1)), .int .i64 (rd l1 x10_1), .int .i64 1] (fun _ => True) (fun _ => False) rfl rfl ?aP (fun _ hk => hk.elim) ?aF ?aO ?aB ?aS ?aL ?_; (case aP => exact k50_mkM _ _ _ (⟨wrap64 (a0 + x10_1), wrap64 (a0 + x10_1), rd l1 x10_1, 1⟩ : S50)); (case aB => exact bA); (case aF => exact (fun _ _ => trivial)); (case aO => exact (rA HO_5.out)); (case aS => exact (below_size bA)); (case aL => have := LMc7.out; omega); intro v132 w8 ho hb hg hat; rw [← Ny131.out] at ho; have n0_ := Aside0.mk (hb); have n1_ := Aside0.mk (ho); clear HB; clear HO_5; have HB := n0_; have HO133 := n1_; clear n0_ n1_; clear ho hb hg hat))
        go_roundg k1
        case measure => have := HK1.out; omega
        case rel => exact ⟨(y131), (wrap64 (x10_1 + 1)), gA, H', ⟨by have := HK1.out; omega⟩, ⟨by (with_reducible repeat (first | apply Kd.R_alloc | apply Kd.R_drewN | apply Kd.R_drew)); exact HO133.out⟩, ⟨bA⟩⟩
       ·
        rw [if_neg c7] at H
        exact absurd H (by simp)
     ·
      rw [if_neg c5] at H
      exact absurd H (by simp)
    ·
     rw [if_neg c4] at H
     exact absurd H (by simp)
   ·
    rw [if_neg c3] at H
    have c3b0 : decide (x10_1 < (l1.length : Int)) = false := decide_eq_false c3
    clear c3
    obtain rfl := Option.some.inj H
    go_wp2
    go_ret
    exact ⟨_, eA, by (with_reducible repeat (first | apply Kd.R_alloc | apply Kd.R_drewN | apply Kd.R_drew)); exact HO_5.out, by repeat (first | (with_reducible first | exact HB.out | apply below_alloc | apply pw_below_drewN | apply below_drew1) | exact HB.out)⟩
end Go.Proofs.Ytejdflndgnpkcaa.P
end
section
namespace Go.Proofs.Ytejdflndgnpkcaa.P
open Go.RowKit Go.Proofs.YtejdflndgnpkcaaW.PrintWords Go.Proofs.YtejdflndgnpkcaaW.PrintLast Go.Proofs.YtejdflndgnpkcaaW.PrintMore
attribute [local go_sem] max2_int min2_int max_two min_two max_three min_three max_four min_four
def chart_getSmall.f (k : Nat) (a0 : ByteArray) (a1 : Int) : Option ((List (S50)) × Int) := if a1 = 262 then ((slices_Repeat_int_int.f (([1] : List Int)) 256).bind fun t137 => ((bin_Get.f a0 6 t137).bind fun bt140 => ((chart_spans.f k 0 bt140.1).bind fun t144 => (some (t144, bt140.2))))) else (some (([] : List (S50)), 5))
set_option maxHeartbeats 8000000 in
set_option maxRecDepth 100000 in
theorem chart_getSmall.calls (k : Nat) (a0 : ByteArray) (a1 : Int) (r1 : List (S50)) (r2 : Int) (w : World) (h : chart_getSmall.f k a0 a1 = some (r1, r2)) :
  Calls Try.prog 60 #[.string a0, .int .i64 a1] w fun e w' => ∃ v0_ : Value, e = .returned (.tuple #[v0_, .int .i64 r2]) ∧ Kd.R k50 50 w' w.heap.size (fun _ => True) v0_ r1 ∧ Below w.heap.size w w' := by
 have HB := Aside0.mk (Below.refl w.heap.size w)
 have H : (if a1 = 262 then ((slices_Repeat_int_int.f (([1] : List Int)) 256).bind fun t137 => ((bin_Get.f a0 6 t137).bind fun bt140 => ((chart_spans.f k 0 bt140.1).bind fun t144 => (some (t144, bt140.2))))) else (some (([] : List (S50)), 5))) = some (r1, r2) := h
 clear h
 by_cases c3 : a1 = 262
 ·
  rw [if_pos c3] at H
  have c3b0 : (a1 == 262) = true := beq_iff_eq.mpr c3
  have c3b1 : (a1 != 262) = false := bne_eq_false_iff_eq.mpr c3
  clear c3
  obtain ⟨y134, hy134⟩ : ∃ y_ : List Int, y_ = (([1] : List Int)) := ⟨_, rfl⟩
  replace H : ((slices_Repeat_int_int.f y134 256).bind fun t137 => ((bin_Get.f a0 6 t137).bind fun bt140 => ((chart_spans.f k 0 bt140.1).bind fun t144 => (some (t144, bt140.2))))) = some (r1, r2) := by first | (rw [hy134]; with_reducible exact H) | (have H2_ := (Option.bind_some _ _).symm.trans H; rw [hy134]; with_reducible exact H2_) | (have H2_ := (Option.bind_some _ _).symm.trans H; with_reducible exact H2_) | with_reducible exact H | (rw [hy134]; exact H) | exact H
  have Ny134 := Aside0.mk hy134
  clear hy134
  replace H := Option.bind_eq_some_iff.mp H
  obtain ⟨t137, A40, H⟩ := H
  try dsimp only at H
  have A4 := Aside0.mk A40
  clear A40
  replace H := Option.bind_eq_some_iff.mp H
  obtain ⟨⟨t140, t141⟩, A50, H⟩ := H
  try dsimp only at H
  have A5 := Aside0.mk A50
  clear A50
  replace H := Option.bind_eq_some_iff.mp H
  obtain ⟨t144, A60, H⟩ := H
  try dsimp only at H
  have A6 := Aside0.mk A60
  clear A60
  simp only [Option.some.injEq, Prod.mk.injEq] at H
  obtain ⟨rfl, rfl⟩ := H
  go_enter Try.func60, Try.ntmps60
  go_wp2_with (first | ((with_reducible refine gate_dst (N := 12) rfl ?_); refine Kd.R_lit (Kd.int .i64) _ 3 ?hg (N := 12) ?hd (xs := ([1] : List Int)) (inner := [.int .i64 1]) (ok := fun _ => True) (okp := fun _ => True) ?hr ?hp (fun _ hk => hk) trivial (Below.refl _ _) (Nat.le_refl _) (by simp) ?_; (case hd => rfl); (case hg => rfl); (case hr => exact hA); (case hp => exact (Reps.one (show Kd.M (Kd.int .i64) _ _ _ 1 [.int .i64 1] from rfl) (Reps.none _ _))); intro v135 w7 ho8 hb hg_ hnew_; clear hg_ hnew_; (first | rw [← Ny134.out] at ho8 | (simp only [Int.reduceToNat] at ho8; rw [← Ny134.out] at ho8)); have HO136 := Aside0.mk (Kd.R_lower ho8 (below_size bA)); replace HB := Aside0.mk (below_step bA hb); clear hb ho8; obtain ⟨Ao9, co9, eo9⟩ := Kd.R_slice HO136.out; subst eo9) | ((with_reducible refine gate_callee (f := 23) rfl ?_); refine gL_ 13 Try.func23 #[.slice Ao9 y134.length co9, .int .i64 256] ?_; (with_reducible refine (slices_Repeat_int_int.calls _ _ y134 256 t137 _ ?side1 ?side2 A4.out).mono ?_); (case side1 => exact cA (Kd.R_reads' HO136.out).2.2); (case side2 => exact (Kd.R_reads' HO136.out).2.1); rintro e w10 ⟨v138, rfl, ho0, hb⟩; refine ⟨_, rfl, ?_⟩; have HO139 := Aside0.mk (Kd.R_lower (Kd.R_new' ho0 (Kd.R_lt (rA HO136.out))) (below_size bA)); replace HO136 := eL HO136 ho0 hb; replace HB := Aside0.mk (below_step bA hb); (try clear hb ho0); obtain ⟨Ao11, co11, eo11⟩ := Kd.R_slice HO139.out; subst eo11) | ((with_reducible refine gate_callee (f := 22) rfl ?_); refine gL_ 14 Try.func22 #[.string a0, .int .i64 6, .slice Ao11 t137.length co11] ?_; (with_reducible refine (bin_Get.calls a0 6 _ _ t137 t140 t141 _ ?side1 ?side2 A5.out).mono ?_); (case side1 => exact cA (Kd.R_reads' HO139.out).2.2); (case side2 => exact (Kd.R_reads' HO139.out).2.1); rintro e w12 ⟨v142, rfl, ho0, hb⟩; refine ⟨_, rfl, ?_⟩; have HO143 := Aside0.mk (Kd.R_lower (Kd.R_new' (Kd.R_new' ho0 (Kd.R_lt (rA HO136.out))) (Kd.R_lt (rA HO139.out))) (below_size bA)); replace HO136 := eL HO136 ho0 hb; replace HO139 := eL HO139 ho0 hb; replace HB := Aside0.mk (below_step bA hb); (try clear hb ho0); obtain ⟨Ao13, co13, eo13⟩ := Kd.R_slice HO143.out; subst eo13) | ((with_reducible refine gate_callee (f := 81) rfl ?_); refine gL_ 18 Try.func81 #[.int .i64 0, .slice Ao13 t140.length co13] ?_; (with_reducible refine (chart_spans.calls k 0 _ _ t140 t144 _ ?side1 ?side2 A6.out).mono ?_); (case side1 => exact cA (Kd.R_reads' HO143.out).2.2); (case side2 => exact (Kd.R_reads' HO143.out).2.1); rintro e w14 ⟨v145, rfl, ho0, hb⟩; refine ⟨_, rfl, ?_⟩; have HO146 := Aside0.mk (Kd.R_lower ho0 (below_size bA)); replace HO136 := Aside0.mk (Kd.R_below (rA HO136.out) hb); replace HO139 := Aside0.mk (Kd.R_below (rA HO139.out) hb); replace HO143 := Aside0.mk (Kd.R_below (rA HO143.out) hb); replace HB := Aside0.mk (below_step bA hb); (try clear hb ho0)))
  go_ret2
  exact ⟨_, eA, by (with_reducible repeat (first | apply Kd.R_alloc | apply Kd.R_drewN | apply Kd.R_drew)); exact HO146.out, by repeat (first | (with_reducible first | exact HB.out | apply below_alloc | apply pw_below_drewN | apply below_drew1) | exact HB.out)⟩
 ·
  rw [if_neg c3] at H
  have c3b0 : (a1 == 262) = false := beq_eq_false_iff_ne.mpr c3
  have c3b1 : (a1 != 262) = true := bne_iff_ne.mpr c3
  simp only [Option.some.injEq, Prod.mk.injEq] at H
  obtain ⟨rfl, rfl⟩ := H
  go_enter Try.func60, Try.ntmps60
  go_wp2
  go_ret2
  exact ⟨_, eA, nA, by repeat (first | (with_reducible first | exact HB.out | apply below_alloc | apply pw_below_drewN | apply below_drew1) | exact HB.out)⟩
end Go.Proofs.Ytejdflndgnpkcaa.P
end
section
namespace Go.Proofs.Ytejdflndgnpkcaa.P
open Go.RowKit Go.Proofs.YtejdflndgnpkcaaW.PrintWords Go.Proofs.YtejdflndgnpkcaaW.PrintLast Go.Proofs.YtejdflndgnpkcaaW.PrintMore
def w2 (s : ByteArray) (p : Nat) : Int := takeN (s.extract p s.size) 2
def w1 (s : ByteArray) (p : Nat) : Int := takeN (s.extract p s.size) 1
theorem w2_bd (s : ByteArray) (p : Nat) : 0 ≤ w2 s p ∧ w2 s p ≤ 65535 := by
 unfold w2 takeN
 rw [if_neg (by rintro ⟨h, _⟩; exact absurd h (by decide))]
 have := numAt_bd (s.extract p s.size) 2
 have e4 : (256 : Int) ^ 2 = 65536 := by decide
 rw [e4] at this
 have e : (2 : Int).natAbs = 2 := rfl
 rw [e]; omega
theorem w1_bt (s : ByteArray) (p : Nat) (h : p < s.size) : w1 s p = bt s (p : Int) := by
 unfold w1 takeN
 rw [if_neg (by rintro ⟨h, _⟩; exact absurd h (by decide))]
 have e : (1 : Int).natAbs = 1 := rfl
 rw [e]
 have hb := bt_range s (p : Int)
 simp only [numAt]
 unfold bt
 have h1 : ((0 : Nat) : Int).toNat < (s.extract p s.size).size := by simp; omega
 have h2 : ((p : Nat) : Int).toNat < s.size := by simp; omega
 first
  | (rw [dif_pos h1, dif_pos h2]; simp [ByteArray.getElem_extract])
  | (simp [h1, h2, ByteArray.getElem_extract, h])
theorem get_two (s : ByteArray) (p : Nat) : getN s (p : Int) [2, 2] = if p + 4 ≤ s.size then ([w2 s p, w2 s (p + 2)], 0) else ([], 4) := by
 have h := get_rep s (s := 2) (by decide) p 2
 have e : repN [2] 2 = [2, 2] := rfl
 have e2 : (2 : Int).natAbs = 2 := rfl
 rw [e, e2] at h
 refine Eq.trans h ?_
 by_cases hc : p + 4 ≤ s.size
 ·
  rw [if_pos hc, if_pos (by omega), show List.range 2 = [0, 1] from by decide]
  rfl
 · rw [if_neg hc, if_neg (by omega)]
def spansN (a : Int) : List Int → List S50
 | [] => []
 | g :: r => if g = 0 then spansN (a + 1) r else ⟨a, a, g, 1⟩ :: spansN (a + 1) r
theorem spans_len (a : Int) : ∀ (L : List Int), ∀ b, (spansN b L).length ≤ L.length
 | [], b => Nat.le_refl _
 | g :: r, b => by
  unfold spansN
  have := spans_len a r (b + 1)
  by_cases h : g = 0
  · rw [if_pos h, List.length_cons]; omega
  · rw [if_neg h, List.length_cons, List.length_cons]; omega
theorem spans_snoc (g : Int) : ∀ (L : List Int) (a : Int), spansN a (L ++ [g]) = spansN a L ++ (if g = 0 then [] else [⟨a + L.length, a + L.length, g, 1⟩])
 | [], a => by
  unfold spansN
  simp [spansN]
 | x :: r, a => by
  rw [List.cons_append]
  unfold spansN
  rw [spans_snoc g r (a + 1)]
  have e : a + 1 + (r.length : Int) = a + ((x :: r).length : Int) := by rw [List.length_cons]; omega
  rw [e]
  by_cases h : x = 0
  · rw [if_pos h, if_pos h]
  · rw [if_neg h, if_neg h, List.cons_append]
theorem spans_loop (L : List Int) (a : Int) (ha : 0 ≤ a) (hL : L.length ≤ 131072) (ha2 : a ≤ 131072) (d : Nat) : ∀ k i, L.length - i = d → i ≤ L.length → d + 1 ≤ k → chart_spans.l0 k a (spansN a (L.take i)) L (L.length : Int) (i : Int) = some (spansN a L) := by
 induction d with
 | zero =>
  intro k i hd hi hk
  obtain ⟨k, rfl⟩ : ∃ n, k = n + 1 := ⟨k - 1, by omega⟩
  have : i = L.length := by omega
  subst this
  simp only [chart_spans.l0]
  rw [if_neg (by omega), List.take_length]
 | succ d ih =>
  intro k i hd hi hk
  obtain ⟨k, rfl⟩ : ∃ n, k = n + 1 := ⟨k - 1, by omega⟩
  have hlt : i < L.length := by omega
  have hw : wrap64 ((i : Int) + 1) = ((i + 1 : Nat) : Int) := by unfold wrap64; omega
  have hw1 : wrap64 (a + (i : Int)) = a + (i : Int) := by unfold wrap64; omega
  have hr : rd L (i : Int) = L[i] := by unfold rd; simp [List.getD_eq_getElem?_getD, List.getElem?_eq_getElem hlt]
  have ht : L.take (i + 1) = L.take i ++ [L[i]] := by rw [List.take_add_one, List.getElem?_eq_getElem hlt]; rfl
  have hs := spans_snoc L[i] (L.take i) a
  rw [← ht] at hs
  have hli : (L.take i).length = i := by rw [List.length_take]; omega
  rw [hli] at hs
  have ih' := ih k (i + 1) (by omega) (by omega) (by omega)
  rw [hs] at ih'
  have hsl := spans_len a (L.take i) a
  simp only [chart_spans.l0]
  rw [if_pos (by omega), if_pos (by omega), if_pos (by omega), hr, hw, hw1]
  by_cases hg : L[i] = 0
  ·
   rw [if_pos hg]
   rw [if_pos hg, List.append_nil] at ih'
   exact ih'
  ·
   rw [if_neg hg, if_pos (by omega)]
   rw [if_neg hg] at ih'
   exact ih'
theorem spans_told (L : List Int) (a : Int) (ha : 0 ≤ a) (hL : L.length ≤ 131072) (ha2 : a ≤ 131072) (k : Nat) (hk : L.length + 1 ≤ k) : chart_spans.f k a L = some (spansN a L) := by
 have := spans_loop L a ha hL ha2 L.length k 0 rfl (by omega) hk
 rwa [List.take_zero] at this
def getC (s : ByteArray) : List S50 × Int :=
 if s.size < 4 then ([], 4)
 else if w2 s 0 = 0 then (if w2 s 2 = 262 then (if 262 ≤ s.size then (spansN 0 ((List.range 256).map (fun i => w1 s (6 + i))), 0) else ([], 4)) else ([], 5))
 else if w2 s 0 = 6 then (if s.size < 10 then ([], 4) else if w2 s 2 = 10 + 2 * w2 s 8 then (if (s.size : Int) < w2 s 2 then ([], 4) else if w2 s 6 + w2 s 8 > 65536 then ([], 5) else (spansN (w2 s 6) ((List.range (w2 s 8).toNat).map (fun i => w2 s (10 + 2 * i))), 0)) else ([], 5))
 else ([], 5)
theorem rep_told {z : Int} (n : Nat) (h : n ≤ 131072) : slices_Repeat_int_int.f [z] (n : Int) = some (repN [z] n) := by
 unfold slices_Repeat_int_int.f slices_Repeat.f
 rw [if_pos (by refine ⟨by omega, by omega, Nat.lt_of_lt_of_le (by decide : (1 : Nat) < 2) (by decide), ?_⟩; show 1 * ((n : Int)).toNat ≤ _; omega)]
 rfl
theorem rep_one (z : Int) (k : Nat) : (repN [z] k).length = k := by rw [repN_length]; exact Nat.one_mul _
theorem getSmall_told (s : ByteArray) (n : Int) (k : Nat) (hk : 300 ≤ k) : chart_getSmall.f k s n = some (if n = 262 then (if 262 ≤ s.size then (spansN 0 ((List.range 256).map (fun i => w1 s (6 + i))), 0) else ([], 4)) else ([], 5)) := by
 unfold chart_getSmall.f
 by_cases hn : n = 262
 ·
  have hr := rep_told (z := 1) 256 (by decide)
  have hr' : slices_Repeat_int_int.f [1] 256 = some (repN [1] 256) := hr
  have hg := get_rep s (s := 1) (by decide) 6 256
  have e2 : (1 : Int).natAbs = 1 := rfl
  rw [e2] at hg
  have hg' : getN s 6 (repN [1] 256) = if 6 + 1 * 256 ≤ s.size then ((List.range 256).map (fun i => takeN (s.extract (6 + 1 * i) s.size) 1), 0) else ([], 4) := hg
  rw [if_pos hn, if_pos hn, hr', Option.bind_some]
  unfold bin_Get.f
  rw [if_pos (by rw [rep_one]; decide), hg', Option.bind_some]
  by_cases hs : 262 ≤ s.size
  ·
   rw [if_pos (show 6 + 1 * 256 ≤ s.size by omega), if_pos hs]
   simp only [Nat.one_mul]
   rw [spans_told _ 0 (by decide) (by simp) (by decide) k (by simp; omega)]
   rfl
  ·
   rw [if_neg (show ¬ 6 + 1 * 256 ≤ s.size by omega), if_neg hs]
   simp only
   rw [spans_told [] 0 (by decide) (by simp) (by decide) k (by simp; omega)]
   rfl
 · rw [if_neg hn, if_neg hn]
end Go.Proofs.Ytejdflndgnpkcaa.P
end
