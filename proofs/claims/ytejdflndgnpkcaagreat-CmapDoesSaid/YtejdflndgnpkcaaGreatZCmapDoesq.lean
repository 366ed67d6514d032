/- Words, contracts and plain facts of the proof. Each says its own condition. -/
import Derived.Test.YtejdflndgnpkcaaGreatZCmapDoesm
import Derived.Test.YtejdflndgnpkcaaGreatZCmapDoeso
import Derived.Test.YtejdflndgnpkcaaGreatZCmapDoesp
import Derived.Test.YtejdflndgnpkcaaGreatZCmapDoese
import Derived.Test.YtejdflndgnpkcaaGreatZCmapDoesi
import Derived.Test.YtejdflndgnpkcaaGreatZCmapDoesg
import Derived.Test.YtejdflndgnpkcaaGreatZCmapDoesh
set_option linter.unusedVariables false
set_option maxRecDepth 100000
set_option linter.unusedSimpArgs false
set_option maxHeartbeats 16000000
section
namespace Go.Proofs.YtejdflndgnpkcaaGreat.P
open Go.RowKit PW PL PM
theorem rd_get (l : List S61) (i : Nat) (h : i < l.length) : rd_T61 l (i : Int) = l[i] := by
 rw [rd_atS, atS_get l i h]
theorem one_ref (x : S61) : r08_one.f x.f0 x.f1 x.f2 x.f3 = some (rightN x) := by
 obtain ⟨a, b, c, s⟩ := x;unfold r08_one.f rightN;simp only;by_cases h1 : a < 0
 · rw [if_pos h1, decide_eq_false (show ¬ 0 ≤ a by omega), Bool.false_and]
 rw [if_neg h1, decide_eq_true (show 0 ≤ a by omega), Bool.true_and];by_cases h2 : b < a
 · rw [if_pos h2, decide_eq_false (show ¬ a ≤ b by omega), Bool.false_and]
 rw [if_neg h2, decide_eq_true (show a ≤ b by omega), Bool.true_and];by_cases h3 : b > 1114111
 · rw [if_pos h3, decide_eq_false (show ¬ b ≤ 1114111 by omega), Bool.false_and]
 rw [if_neg h3, decide_eq_true (show b ≤ 1114111 by omega), Bool.true_and]
 have hs : (s == 0 || s == 1) = (decide (0 ≤ s) && decide (s ≤ 1)) := by
  rw [Bool.eq_iff_iff];simp only [Bool.or_eq_true, Bool.and_eq_true, beq_iff_eq, decide_eq_true_eq];omega
 rw [hs];by_cases h4 : s < 0
 · rw [if_pos h4, decide_eq_false (show ¬ 0 ≤ s by omega), Bool.false_and, Bool.false_and]
 rw [if_neg h4, decide_eq_true (show 0 ≤ s by omega), Bool.true_and];by_cases h5 : s > 1
 · rw [if_pos h5, decide_eq_false (show ¬ s ≤ 1 by omega), Bool.false_and]
 rw [if_neg h5, decide_eq_true (show s ≤ 1 by omega), Bool.true_and];by_cases h6 : c < 0
 · rw [if_pos h6, decide_eq_false (show ¬ 0 ≤ c by omega), Bool.false_and]
 rw [if_neg h6, decide_eq_true (show 0 ≤ c by omega), Bool.true_and];by_cases h7 : c > 65535
 · rw [if_pos h7, decide_eq_false (show ¬ c ≤ 65535 by omega), Bool.false_and]
 rw [if_neg h7, decide_eq_true (show c ≤ 65535 by omega), Bool.true_and, glyph_bound (by omega) (by omega) (by omega) (by omega) (by omega) s (by omega)]
def isFrom (l : List S61) (i : Nat) : Bool := (l.drop i).all rightN && ordN (l.drop (i - 1))
theorem is_loop (l : List S61) (hl : l.length ≤ 65536) (d : Nat) : ∀ k i, l.length - i = d → i ≤ l.length → 2 * d + 3 ≤ k → r08_Is.l0 k l (i : Int) = some (isFrom l i) := by
 induction d with
 | zero =>
  intro k i hd hi hk;obtain ⟨k, rfl⟩ : ∃ n, k = n + 2 := ⟨k - 2, by omega⟩;have : i = l.length := by omega
  subst this;simp only [r08_Is.l0];rw [if_neg (by omega)];simp only [r08_Is.j1];rw [if_neg Bool.false_ne_true, decide_eq_true (show (l.length : Int) ≤ 65536 by omega)];unfold isFrom;rw [List.drop_length, List.all_nil, Bool.true_and];by_cases h0 : l.length = 0
  · rw [List.length_eq_zero_iff.1 h0]; rfl
  rw [ord_last l (l.length - 1) (by omega)]
 | succ d ih =>
  intro k i hd hi hk;obtain ⟨k, rfl⟩ : ∃ n, k = n + 2 := ⟨k - 2, by omega⟩;have hlt : i < l.length := by omega
  have hw : wrap64 ((i : Int) + 1) = ((i + 1 : Nat) : Int) := by unfold wrap64; omega
  have hw1 : wrap64 ((i : Int) - 1) = (i : Int) - 1 := by unfold wrap64; omega
  have ih' := ih k (i + 1) (by omega) (by omega) (by omega);simp only [r08_Is.l0];rw [if_pos (by omega), decide_eq_true (show (l.length : Int) ≤ 65536 by omega)];simp only [r08_Is.j1];rw [if_pos trivial, if_pos (by omega), if_pos (by omega), one_ref];simp only [Option.bind_some];rw [rd_get l i hlt, hw, hw1, ih'];have e1 : (l.drop i).all rightN = (rightN l[i] && (l.drop (i + 1)).all rightN) := by rw [List.drop_eq_getElem_cons hlt, List.all_cons]
  cases hx : rightN l[i] with
  | false =>
   rw [if_neg Bool.false_ne_true];unfold isFrom;rw [e1, hx, Bool.false_and, Bool.false_and]
  | true =>
   rw [if_pos rfl];unfold isFrom;rw [e1, hx, Bool.true_and, Nat.add_sub_cancel];by_cases h0 : (i : Int) > 0
   ·
    obtain ⟨j, rfl⟩ : ∃ j, i = j + 1 := ⟨i - 1, by omega⟩;have hj : ((j + 1 : Nat) : Int) - 1 = (j : Int) := by omega
    rw [if_pos h0, hj, if_pos (by omega), if_pos (by omega), rd_get l j (by omega), Nat.add_sub_cancel, ord_at l j hlt];by_cases hle : l[j + 1].f0 ≤ l[j].f1
    · rw [if_pos hle, decide_eq_false (show ¬ l[j].f1 < l[j + 1].f0 by omega), Bool.false_and, Bool.and_false]
    rw [if_neg hle, decide_eq_true (show l[j].f1 < l[j + 1].f0 by omega), Bool.true_and]
   have : i = 0 := by omega
   subst this;rw [if_neg h0]
theorem is_ref8 (l : List S61) (k : Nat) (hk : 131100 ≤ k ∨ l.length ≤ 300 ∧ 700 ≤ k) : r08_Is.f k l = some (isL l) := by
 unfold r08_Is.f;by_cases hl : l.length ≤ 65536
 ·
  have := is_loop l hl l.length k 0 rfl (by omega) (by omega);refine Eq.trans this ?_;unfold isFrom isL;rw [List.drop_zero, decide_eq_true hl, Bool.true_and]
 obtain ⟨k, rfl⟩ : ∃ n, k = n + 2 := ⟨k - 2, by omega⟩;simp only [r08_Is.l0];rw [if_pos (by omega), decide_eq_false (show ¬ (l.length : Int) ≤ 65536 by omega)];simp only [r08_Is.j1];rw [if_neg Bool.false_ne_true, decide_eq_false (show ¬ (l.length : Int) ≤ 65536 by omega)];unfold isL;rw [decide_eq_false hl, Bool.false_and]
def endsR (l : List S61) : Int × Int × Bool := if (endsN l).2.2 = true then endsN l else (-1, -1, false)
theorem has_skip {x : S61} (hx : rightN x = true) : hasN x = !((x.f2 == 0 && x.f3 == 0) || decide ((if x.f2 = 0 then x.f0 + 1 else x.f0) > x.f1)) := by
 obtain ⟨a0, a1, a2, a3, a4, a5, a6⟩ := (right_iff x).1 hx;rw [Bool.eq_iff_iff, has_iff hx];simp only [Bool.not_eq_true', Bool.or_eq_false_iff, Bool.and_eq_false_iff, beq_eq_false_iff_ne, decide_eq_false_iff_not];by_cases h : x.f2 = 0
 · rw [if_pos h]; omega
 rw [if_neg h]; omega
theorem fst_from {x : S61} (hx : rightN x = true) (hh : hasN x = true) : fstAt x = if x.f2 = 0 then x.f0 + 1 else x.f0 := by
 have h2 := (has_iff hx).1 hh;rw [fst_val hx];by_cases h : x.f2 = 0
 · rw [if_pos h, if_pos h]; omega
 rw [if_neg h, if_neg h]
theorem ends_round (l : List S61) (i : Nat) (hlt : i < l.length) (hi : i ≤ 65536) (hx : rightN l[i] = true) (a b : Int) (k : Nat) : r08_ends.l0 (k + 3) l a b (i : Int) = if hasN l[i] = true then r08_ends.l0 k l (if a < 0 then fstAt l[i] else a) l[i].f1 ((i + 1 : Nat) : Int) else r08_ends.l0 k l a b ((i + 1 : Nat) : Int) := by
 obtain ⟨a0, a1, a2, a3, a4, a5, a6⟩ := (right_iff l[i]).1 hx;have hw : wrap64 ((i : Int) + 1) = ((i + 1 : Nat) : Int) := by unfold wrap64; omega
 have hw1 : wrap64 (l[i].f0 + 1) = l[i].f0 + 1 := by unfold wrap64; omega
 have hs := has_skip hx
 have hj : ∀ (f : Int) (q : Bool), (hasN l[i] = true → f = fstAt l[i]) → q = !hasN l[i] → r08_ends.j2 (k + 1) l a b (i : Int) f q = if hasN l[i] = true then r08_ends.l0 k l (if a < 0 then fstAt l[i] else a) l[i].f1 ((i + 1 : Nat) : Int) else r08_ends.l0 k l a b ((i + 1 : Nat) : Int) := fun f q hf hq => by
  simp only [r08_ends.j2];rw [hw, rd_get l i hlt, if_pos (show 0 ≤ (i : Int) by omega), if_pos (show (i : Int) < (l.length : Int) by omega), if_pos (show 0 ≤ (i : Int) by omega), if_pos (show (i : Int) < (l.length : Int) by omega)];cases hh : hasN l[i] with
  | false => rw [hq, hh, if_pos (by decide), if_neg Bool.false_ne_true]
  | true =>
   rw [hq, hh, if_neg (by decide), if_pos rfl, hf hh];by_cases ha : a < 0
   · rw [if_pos ha, if_pos ha]
   rw [if_neg ha, if_neg ha]
 simp only [r08_ends.l0];rw [if_pos (show (i : Int) < (l.length : Int) by omega), if_pos (show 0 ≤ (i : Int) by omega), rd_get l i hlt, hw1];by_cases h2 : l[i].f2 = 0
 ·
  rw [if_pos h2];simp only [r08_ends.j1];rw [if_pos (show 0 ≤ (i : Int) by omega), if_pos (show (i : Int) < (l.length : Int) by omega), rd_get l i hlt, if_pos h2];rw [if_pos h2] at hs;by_cases h3 : l[i].f3 = 0
  ·
   rw [if_pos h3];refine hj _ _ (fun hh => by rw [fst_from hx hh, if_pos h2]) ?_;rw [hs, h2, h3]; rfl
  rw [if_neg h3];refine hj _ _ (fun hh => by rw [fst_from hx hh, if_pos h2]) ?_;rw [hs, beq_eq_false_iff_ne.2 h3, Bool.and_false, Bool.false_or, Bool.not_not]
 rw [if_neg h2];simp only [r08_ends.j1];rw [if_pos (show 0 ≤ (i : Int) by omega), if_pos (show (i : Int) < (l.length : Int) by omega), rd_get l i hlt, if_neg h2];rw [if_neg h2] at hs;refine hj _ _ (fun hh => by rw [fst_from hx hh, if_neg h2]) ?_;rw [hs, beq_eq_false_iff_ne.2 h2, Bool.false_and, Bool.false_or, Bool.not_not]
theorem ends_after (l : List S61) (hl : l.length ≤ 65536) (hr : ∀ x ∈ l, rightN x = true) (a : Int) (ha : 0 ≤ a) (d : Nat) : ∀ k i b, l.length - i = d → i ≤ l.length → 3 * d + 1 ≤ k → r08_ends.l0 k l a b (i : Int) = some (a, lastN b (l.drop i), true) := by
 induction d with
 | zero =>
  intro k i b hd hi hk;obtain ⟨k, rfl⟩ : ∃ n, k = n + 1 := ⟨k - 1, by omega⟩;have : i = l.length := by omega
  subst this;simp only [r08_ends.l0];rw [if_neg (by omega), List.drop_length, decide_eq_true (show a ≥ 0 from ha)];rfl
 | succ d ih =>
  intro k i b hd hi hk;obtain ⟨k, rfl⟩ : ∃ n, k = n + 3 := ⟨k - 3, by omega⟩;have hlt : i < l.length := by omega
  rw [ends_round l i hlt (by omega) (hr _ (List.getElem_mem hlt)) a b k, List.drop_eq_getElem_cons hlt, last_step, if_neg (show ¬ a < 0 by omega), ih k (i + 1) _ (by omega) (by omega) (by omega), ih k (i + 1) _ (by omega) (by omega) (by omega)];cases hasN l[i] <;> rfl
theorem ends_before (l : List S61) (hl : l.length ≤ 65536) (hr : ∀ x ∈ l, rightN x = true) (d : Nat) : ∀ k i, l.length - i = d → i ≤ l.length → 3 * d + 1 ≤ k → r08_ends.l0 k l (-1) (-1) (i : Int) = some (endsR (l.drop i)) := by
 induction d with
 | zero =>
  intro k i hd hi hk;obtain ⟨k, rfl⟩ : ∃ n, k = n + 1 := ⟨k - 1, by omega⟩;have : i = l.length := by omega
  subst this;simp only [r08_ends.l0];rw [if_neg (by omega), List.drop_length];rfl
 | succ d ih =>
  intro k i hd hi hk;obtain ⟨k, rfl⟩ : ∃ n, k = n + 3 := ⟨k - 3, by omega⟩;have hlt : i < l.length := by omega
  have hx := hr _ (List.getElem_mem hlt);rw [ends_round l i hlt (by omega) hx (-1) (-1) k, ih k (i + 1) (by omega) (by omega) (by omega), List.drop_eq_getElem_cons hlt, if_pos (show (-1 : Int) < 0 by decide)];cases hh : hasN l[i] with
  | false =>
   rw [if_neg Bool.false_ne_true];unfold endsR;conv => rhs; unfold endsN
   rw [hh, if_neg Bool.false_ne_true]
  | true =>
   rw [if_pos rfl, ends_after l hl hr (fstAt l[i]) (fst_in hx hh).1 d k (i + 1) l[i].f1 (by omega) (by omega) (by omega)];unfold endsR endsN;rw [hh, if_pos rfl, if_pos rfl, last_step, hh, if_pos rfl]
theorem ends_ref {l : List S61} (h : isL l = true) (k : Nat) (hk : 3 * l.length + 1 ≤ k) : r08_ends.f k l = some (endsR l) := by
 obtain ⟨h1, h2, _⟩ := isL_all h;exact ends_before l h1 h2 l.length k 0 rfl (by omega) hk
theorem look_loop (l : List S61) (hl : l.length ≤ 65536) (hr : ∀ x ∈ l, rightN x = true) (c : Int) (d : Nat) : ∀ k i, l.length - i = d → i ≤ l.length → d + 1 ≤ k → r08_look.l0 k l c (i : Int) = some (linN (l.drop i) c) := by
 induction d with
 | zero =>
  intro k i hd hi hk;obtain ⟨k, rfl⟩ : ∃ n, k = n + 1 := ⟨k - 1, by omega⟩;have : i = l.length := by omega
  subst this;simp only [r08_look.l0];rw [if_neg (by omega), List.drop_length];rfl
 | succ d ih =>
  intro k i hd hi hk;obtain ⟨k, rfl⟩ : ∃ n, k = n + 1 := ⟨k - 1, by omega⟩;have hlt : i < l.length := by omega
  have hw : wrap64 ((i : Int) + 1) = ((i + 1 : Nat) : Int) := by unfold wrap64; omega
  have hx := hr _ (List.getElem_mem hlt);simp only [r08_look.l0];rw [if_pos (by omega), if_pos (by omega), rd_get l i hlt, hw, ih k (i + 1) (by omega) (by omega) (by omega), List.drop_eq_getElem_cons hlt];conv => rhs; unfold linN
  by_cases h1 : c ≥ l[i].f0
  ·
   rw [if_pos h1];by_cases h2 : c ≤ l[i].f1
   ·
    rw [if_pos h2, if_pos ⟨h1, h2⟩];have := gly_in hx h1 (show c ≤ l[i].f1 + 1 by omega);unfold glyAt at this;rw [this]
   rw [if_neg h2, if_neg (fun h => h2 h.2)]
  rw [if_neg h1, if_neg (fun h => h1 h.1)]
theorem look_ref {l : List S61} (h : isL l = true) (c : Int) (k : Nat) (hk : l.length + 1 ≤ k) : r08_look.f k l c = some (lookN l c) := by
 obtain ⟨h1, h2, h3⟩ := isL_all h;rw [look_lin h2 h3];exact look_loop l h1 h2 c l.length k 0 rfl (by omega) hk
def glyphOf (l : List S61) (c : Int) : Int := if isL l = true then lookN l c else 0
theorem look_told (l : List S61) (c : Int) : chart_Look.f l c = some (glyphOf l c) := by
 unfold chart_Look.f chart_Is.f glyphOf;rw [Option.bind_some];cases h : isL l with
 | false => rw [if_neg Bool.false_ne_true, if_neg Bool.false_ne_true]
 | true =>
  rw [if_pos rfl, if_pos rfl];unfold chart_look.f;rw [if_pos (isL_all h).1];rfl
theorem Look_ref (l : List S61) (c : Int) (k : Nat) (hk : 131100 ≤ k ∨ l.length ≤ 300 ∧ 700 ≤ k) : r08_Look.f k l c = some (glyphOf l c) := by
 unfold r08_Look.f glyphOf;rw [is_ref8 l k hk, Option.bind_some];cases h : isL l with
 | false => rw [if_neg Bool.false_ne_true, if_neg Bool.false_ne_true]
 | true =>
  have := (isL_all h).1;rw [if_pos rfl, if_pos rfl, look_ref h c k (by omega)];rfl
theorem endsR_true {l : List S61} {a b : Int} (h : endsN l = (a, b, true)) : endsR l = (a, b, true) := by
 unfold endsR;rw [h, if_pos rfl]
theorem endsR_false {l : List S61} {a b : Int} (h : endsN l = (a, b, false)) : endsR l = (-1, -1, false) := by
 unfold endsR;rw [h, if_neg Bool.false_ne_true]
theorem bytes_two {v : Int} (h0 : 0 ≤ v) (h1 : v ≤ 65535) (k : Nat) (hk : 16 ≤ k) : r03_Bytes.f k v 2 = some ⟨(bytesN v 2).toArray⟩ := by
 have e : (256 : Int) ^ 2 = 65536 := by decide
 exact bytesN_told v 2 (by simp) (by rw [e]; omega) (by rw [e]; omega) k hk
def restOk (l : List S61) (i : Nat) : Bool := ((List.range 256).drop i).all (fun c => decide (lookN l (c : Int) < 256))
theorem rest_step (l : List S61) (i : Nat) (h : i < 256) : restOk l i = (decide (lookN l (i : Int) < 256) && restOk l (i + 1)) := by
 unfold restOk;rw [List.drop_eq_getElem_cons (by simpa using h), List.all_cons, List.getElem_range]
theorem strOf_one (z : Int) : strOfNums [z] = ⟨[UInt8.ofNat z.toNat].toArray⟩ := by simp [strOfNums]
def smallI (l : List S61) (i : Nat) : List UInt8 := [0, 0, 1, 6, 0, 0] ++ (List.range i).map (byteG l)
theorem small_loop {l : List S61} (h : isL l = true) (d : Nat) : ∀ k i, 256 - i = d → i ≤ 256 → d + l.length + 4 ≤ k → r08_PutSmall.l0 k l ⟨(smallI l i).toArray⟩ (i : Int) = some (if restOk l i = true then (⟨(smallB l).toArray⟩, 0) else (⟨#[]⟩, 7)) := by
 induction d with
 | zero =>
  intro k i hd hi hk;obtain ⟨k, rfl⟩ : ∃ n, k = n + 1 := ⟨k - 1, by omega⟩;have : i = 256 := by omega
  subst this;simp only [r08_PutSmall.l0];rw [if_neg (by omega), if_pos (by unfold restOk; rw [List.drop_of_length_le (by simp)]; rfl)];rfl
 | succ d ih =>
  intro k i hd hi hk;obtain ⟨k, rfl⟩ : ∃ n, k = n + 1 := ⟨k - 1, by omega⟩;have hlt : i < 256 := by omega
  have hw : wrap64 ((i : Int) + 1) = ((i + 1 : Nat) : Int) := by unfold wrap64; omega
  have ih' := ih k (i + 1) (by omega) (by omega) (by omega);simp only [r08_PutSmall.l0];rw [if_pos (by omega), look_ref h (i : Int) k (by omega)];simp only [Option.bind_some];rw [rest_step l i hlt];by_cases hg : lookN l (i : Int) > 255
  · rw [if_pos hg, decide_eq_false (by omega), Bool.false_and, if_neg Bool.false_ne_true]
  rw [if_neg hg, decide_eq_true (by omega), Bool.true_and, hw, strOf_one, ba_join]
  have e : smallI l i ++ [UInt8.ofNat (lookN l (i : Int) % 256).toNat] = smallI l (i + 1) := by
   unfold smallI;rw [List.range_succ, List.map_append, List.append_assoc]; rfl
  have hs : (smallI l i).length = 6 + i := by unfold smallI; simp; omega
  rw [if_pos (by rw [ba_size, ba_size, hs]; simp; omega), e];exact ih'
theorem small_ref (l : List S61) (k : Nat) (hk : 200000 ≤ k) : r08_PutSmall.f k l = some (smallN l) := by
 unfold r08_PutSmall.f smallN;rw [is_ref8 l k (by omega), Option.bind_some];cases h : isL l with
 | false => rw [if_neg Bool.false_ne_true, if_pos rfl]
 | true =>
  obtain ⟨k, rfl⟩ : ∃ n, k = n + 1 := ⟨k - 1, by omega⟩;have hl := (isL_all h).1;rw [if_pos rfl, if_neg (by decide), ends_ref h (k + 1) (by omega), Option.bind_some]
  have h0 : ∀ b, r08_PutSmall.j0 (k + 1) l b = if b = true then some (⟨#[]⟩, 7) else some (if smallOk l = true then (⟨(smallB l).toArray⟩, 0) else (⟨#[]⟩, 7)) := fun b => by
   simp only [r08_PutSmall.j0];cases b with
   | true => rw [if_pos rfl, if_pos rfl]
   | false =>
    rw [if_neg Bool.false_ne_true, if_neg Bool.false_ne_true];exact small_loop h 256 k 0 rfl (by omega) (by omega)
  obtain ⟨_, h1, h2⟩ := isL_all h;rcases ends_in l h1 h2 with ⟨h3, _⟩ | ⟨a, b, h3, h4, h5, h6⟩
  ·
   rw [endsR_false h3, h3];simp only;rw [if_neg Bool.false_ne_true, h0, if_neg Bool.false_ne_true, if_neg (show ¬ (256 : Int) ≤ 0 by decide)]
  rw [endsR_true h3, h3];simp only;rw [if_pos trivial, h0];by_cases hb : b > 255
  · rw [decide_eq_true hb, if_pos rfl, if_pos (show 256 ≤ b by omega)]
  rw [decide_eq_false hb, if_neg Bool.false_ne_true, if_neg (show ¬ 256 ≤ b by omega)]
theorem trim_loop {l : List S61} (h : isL l = true) (a : Int) (ha : 0 ≤ a ∧ a ≤ 65535) (m : Nat) (hm : m ≤ 32762) (pre : List UInt8) (hp : pre.length = 10) (d : Nat) : ∀ k i, m - i = d → i ≤ m → d + l.length + 20 ≤ k → r08_PutTrimmed.l0 k l a (m : Int) ⟨(pre ++ glyphsT l a i).toArray⟩ (i : Int) = some (⟨(pre ++ glyphsT l a m).toArray⟩, 0) := by
 induction d with
 | zero =>
  intro k i hd hi hk;obtain ⟨k, rfl⟩ : ∃ n, k = n + 1 := ⟨k - 1, by omega⟩;have : i = m := by omega
  subst this;simp only [r08_PutTrimmed.l0];rw [if_neg (by omega)]
 | succ d ih =>
  intro k i hd hi hk;obtain ⟨k, rfl⟩ : ∃ n, k = n + 1 := ⟨k - 1, by omega⟩;have hw : wrap64 ((i : Int) + 1) = ((i + 1 : Nat) : Int) := by unfold wrap64; omega
  have hw1 : wrap64 (a + (i : Int)) = a + (i : Int) := by unfold wrap64; omega
  have hb := look_bd h (a + (i : Int));have ih' := ih k (i + 1) (by omega) (by omega) (by omega);simp only [r08_PutTrimmed.l0];rw [if_pos (by omega), hw1, look_ref h _ k (by omega)];simp only [Option.bind_some];rw [bytes_two hb.1 hb.2 k (by omega)];simp only [Option.bind_some];rw [hw, ba_join, if_pos (by rw [ba_size, ba_size, List.length_append, hp, glyphsT_length, bytesN_length]; omega), List.append_assoc, ← glyphsT_succ];exact ih'
theorem trim_ref (l : List S61) (k : Nat) (hk : 200000 ≤ k) : r08_PutTrimmed.f k l = some (trimN l) := by
 unfold r08_PutTrimmed.f trimN;rw [is_ref8 l k (by omega), Option.bind_some];cases h : isL l with
 | false => rw [if_neg Bool.false_ne_true, if_pos rfl]
 | true =>
  obtain ⟨k, rfl⟩ : ∃ n, k = n + 2 := ⟨k - 2, by omega⟩;obtain ⟨hl, h1, h2⟩ := isL_all h;rw [if_pos rfl, if_neg (by decide), ends_ref h (k + 2) (by omega), Option.bind_some]
  have hj : ∀ (a : Int) (m : Nat), 0 ≤ a → a ≤ 65535 → r08_PutTrimmed.j1 (k + 1) l a (m : Int) = if 32762 < (m : Int) then some (⟨#[]⟩, 7) else some (⟨(headT a m ++ glyphsT l a m).toArray⟩, 0) := fun a m ha ha2 => by
   simp only [r08_PutTrimmed.j1];by_cases hm : 32762 < (m : Int)
   · rw [if_pos (by omega), if_pos hm]
   have w1 : wrap64 (2 * (m : Int)) = 2 * (m : Int) := by unfold wrap64; omega
   have w2 : wrap64 (10 + 2 * (m : Int)) = 10 + 2 * (m : Int) := by unfold wrap64; omega
   have e0 : (⟨#[0, 6]⟩ : ByteArray) = ⟨(bytesN 6 2).toArray⟩ := by decide +kernel
   have e1 : (⟨#[0, 0]⟩ : ByteArray) = ⟨(bytesN 0 2).toArray⟩ := by decide +kernel
   rw [if_neg (by omega), if_neg hm, w1, w2, bytes_two (by omega) (by omega) k (by omega), bytes_two ha ha2 k (by omega), bytes_two (v := (m : Int)) (by omega) (by omega) k (by omega), e0, e1];simp only [Option.bind_some, ba_join, ba_size, List.length_append, bytesN_length];rw [if_pos (by omega), if_pos (by omega), if_pos (by omega), if_pos (by omega)]
   have e2 : bytesN 6 2 ++ bytesN (10 + 2 * (m : Int)) 2 ++ bytesN 0 2 ++ bytesN a 2 ++ bytesN (m : Int) 2 = headT a (m : Int) ++ glyphsT l a 0 := by
    unfold headT glyphsT;simp
   rw [e2];exact trim_loop h a ⟨ha, ha2⟩ m (by omega) (headT a (m : Int)) (headT_length _ _) m k 0 rfl (by omega) (by omega)
  rcases ends_in l h1 h2 with ⟨h3, _⟩ | ⟨a, b, h3, h4, h5, h6⟩
  ·
   rw [endsR_false h3, h3];simp only;rw [if_neg Bool.false_ne_true];simp only [r08_PutTrimmed.j0];have := hj 0 0 (by decide) (by decide);rw [if_neg Bool.false_ne_true, if_neg Bool.false_ne_true, if_neg (by decide)];refine Eq.trans this ?_;rw [if_neg (by decide)];rfl
  rw [endsR_true h3, h3];simp only;rw [if_pos trivial];simp only [r08_PutTrimmed.j0];have hmt : manyT a b true = b - a + 1 := by unfold manyT; rw [if_pos rfl]
  rw [hmt];by_cases hb : b > 65535
  · rw [decide_eq_true hb, if_pos rfl, if_pos (.inl (by omega))]
  have w1 : wrap64 (b - a) = b - a := by unfold wrap64; omega
  have w2 : wrap64 (b - a + 1) = (((b - a + 1).toNat : Nat) : Int) := by unfold wrap64; omega
  have e3 : ((((b - a + 1).toNat : Nat) : Int)) = b - a + 1 := by omega
  rw [decide_eq_false hb, if_neg Bool.false_ne_true, if_pos trivial, w1, w2, hj a _ h4 (by omega), e3];by_cases hm : 32762 < b - a + 1
  · rw [if_pos hm, if_pos (.inr hm)]
  rw [if_neg hm, if_neg (by omega)]
attribute [local go_sem] max2_int min2_int max_two min_two max_three min_three max_four min_four
def chart_spans.l0 : Nat → Int → List (S61) → List Int → Int → Int → Option ((List (S61)))
 | 0, _, _, _, _, _ => none
 | k + 1, x0, x5, x8, x9, x10 => if x10 < x9 then (if 0 ≤ x10 then (if x10 < (x8.length : Int) then (if (rd x8 x10) = 0 then (chart_spans.l0 k x0 x5 x8 x9 (wrap64 (x10 + 1))) else (if x5.length < 4398046511104 then (chart_spans.l0 k x0 (x5 ++ [(⟨wrap64 (x0 + x10), wrap64 (x0 + x10), rd x8 x10, 1⟩ : S61)]) x8 x9 (wrap64 (x10 + 1))) else (none))) else (none)) else (none)) else (some x5)
def chart_spans.f (k : Nat) (a0 : Int) (l1 : List Int) : Option ((List (S61))) := chart_spans.l0 k a0 ([] : List (S61)) l1 (l1.length : Int) 0
theorem chart_spans.calls (k : Nat) (a0 : Int) (A1 : Option Addr) (c1 : Nat) (l1 : List Int) (r : List (S61)) (w : World) (hr1 : Kd.C (Kd.int .i64) w A1 l1.length l1) (hc1 : l1.length ≤ c1) (h : chart_spans.f k a0 l1 = some r) :
  Calls Tryz.prog 105 #[.int .i64 a0, .slice A1 l1.length c1] w fun e w' => ∃ v0_ : Value, e = .returned (v0_) ∧ Kd.R k61 61 w' w.heap.size (fun _ => True) v0_ r ∧ Below w.heap.size w w' := by
 have hu61 := Tryz.underlying61;have HR1 := aK hr1;have HC1 := aK hc1;clear hr1 hc1;have HB := aK (Below.refl w.heap.size w);have H : (chart_spans.l0 k a0 ([] : List (S61)) l1 (l1.length : Int) 0) = some r := h;clear h;have H' := aK H;clear H;go_enter Tryz.func105, Tryz.ntmps105;go_wp2;go_loopg [5, 10] k (fun kq v5 v10 w' => ∃ (x5_1 : List (S61)) (x10_1 : Int), v10 = .int .i64 x10_1 ∧ Aside0 (chart_spans.l0 kq a0 x5_1 l1 (l1.length : Int) x10_1 = some r) ∧ Aside0 (kq ≤ k) ∧ Aside0 (Kd.R k61 61 w' w.heap.size (fun _ => True) v5 x5_1) ∧ Aside0 (Below w.heap.size w w'))
 case atStart => exact ⟨(([] : List (S61))), (0), gA, H', ⟨Nat.le_refl _⟩, ⟨nA⟩, ⟨bA⟩⟩
 case round =>
  clear H';obtain ⟨x5_1, x10_1, rfl, HA, HK1, HO_5, HB⟩ := hrel;cases gk with
  | zero => exact absurd HA.out (by simp [chart_spans.l0])
  | succ k1 =>
   have H := HA.out;clear HA;simp only [chart_spans.l0] at H;replace H := qL H;rcases H with ⟨c3b0, H⟩ | ⟨c3b0, H⟩
   ·
    replace H := nL H;obtain ⟨c4b0, H⟩ := H;replace H := nL H;obtain ⟨c5b0, H⟩ := H;replace H := qF H;rcases H with ⟨c6b0, c6b1, H⟩ | ⟨c6b0, c6b1, H⟩
    ·
     have H' := aK H;clear H;obtain ⟨p130, q130, ad130, e130, hx130_0⟩ := aT (Kd.at_int HR1.out x10_1);cases e130
     replace hx130_0 := kM HB.out hx130_0;go_wp2;go_roundg k1
     case measure => exact oK
     case rel => exact ⟨(x5_1), (wrap64 (x10_1 + 1)), gA, H', ⟨oK⟩, ⟨rA HO_5.out⟩, ⟨bA⟩⟩
    replace H := nC H;obtain ⟨c7, H⟩ := H;have LMc7 := aK c7;clear c7;obtain ⟨y131, hy131⟩ : ∃ y_ : List (S61), y_ = (x5_1 ++ [(⟨wrap64 (a0 + x10_1), wrap64 (a0 + x10_1), rd l1 x10_1, 1⟩ : S61)]) := ⟨_, rfl⟩;replace H : (chart_spans.l0 k1 a0 y131 l1 (l1.length : Int) (wrap64 (x10_1 + 1))) = some r := by rw [hy131]; exact H
    have Ny131 := aK hy131;clear hy131;have H' := aK H;clear H;obtain ⟨p130, q130, ad130, e130, hx130_0⟩ := aT (Kd.at_int HR1.out x10_1);cases e130
    replace hx130_0 := kM HB.out hx130_0;go_wp2_with (first | ((with_reducible refine gate_builtin (b := .append) (xs := #[.tmp 17, .tmp 26]) rfl ?_); at_builtin; refine Kd.R_append k61 (w0 := w) w.heap.size rfl (.tmp 17) (.tmp 26) 22 61 (.agg #[(.int .i64 0), (.int .i64 0), (.int .i64 0), (.int .i64 0)]) 32 rfl Tryz.underlying22 info61 rfl (by decide) (by omega) u5 x5_1 (⟨wrap64 (a0 + x10_1), wrap64 (a0 + x10_1), rd l1 x10_1, 1⟩ : S61) [.int .i64 (wrap64 (a0 + x10_1)), .int .i64 (wrap64 (a0 + x10_1)), .int .i64 (rd l1 x10_1), .int .i64 1] (fun _ => True) (fun _ => False) rfl rfl ?aP (fun _ hk => hk.elim) ?aF ?aO ?aB ?aS ?aL ?_; (case aP => exact k61_mkM _ _ _ (⟨wrap64 (a0 + x10_1), wrap64 (a0 + x10_1), rd l1 x10_1, 1⟩ : S61)); (case aB => exact bA); (case aF => exact (fun _ _ => trivial)); (case aO => exact (rA HO_5.out)); (case aS => exact (below_size bA)); (case aL => have := LMc7.out; omega); intro v132 w8 ho hb hg hat; rw [← Ny131.out] at ho; have n0_ := aK (hb); have n1_ := aK (ho); clear HB; clear HO_5; have HB := n0_; have HO133 := n1_; clear n0_ n1_; clear ho hb hg hat))
    go_roundg k1
    case measure => exact oK
    case rel => exact ⟨(y131), (wrap64 (x10_1 + 1)), gA, H', ⟨oK⟩, ⟨rA HO133.out⟩, ⟨bA⟩⟩
   obtain rfl := Option.some.inj H;go_wp2;go_ret;exact ⟨_, eA, rA HO_5.out, bA⟩
def chart_getSmall.f (k : Nat) (a0 : ByteArray) (a1 : Int) : Option ((List (S61)) × Int) := if a1 = 262 then ((slices_Repeat_int_int.f (([1] : List Int)) 256).bind fun t137 => ((bin_Get.f a0 6 t137).bind fun bt140 => ((chart_spans.f k 0 bt140.1).bind fun t144 => (some (t144, bt140.2))))) else (some (([] : List (S61)), 5))
theorem chart_getSmall.calls (k : Nat) (a0 : ByteArray) (a1 : Int) (r1 : List (S61)) (r2 : Int) (w : World) (h : chart_getSmall.f k a0 a1 = some (r1, r2)) :
  Calls Tryz.prog 76 #[.string a0, .int .i64 a1] w fun e w' => ∃ v0_ : Value, e = .returned (.tuple #[v0_, .int .i64 r2]) ∧ Kd.R k61 61 w' w.heap.size (fun _ => True) v0_ r1 ∧ Below w.heap.size w w' := by
 have HB := aK (Below.refl w.heap.size w);have H : (if a1 = 262 then ((slices_Repeat_int_int.f (([1] : List Int)) 256).bind fun t137 => ((bin_Get.f a0 6 t137).bind fun bt140 => ((chart_spans.f k 0 bt140.1).bind fun t144 => (some (t144, bt140.2))))) else (some (([] : List (S61)), 5))) = some (r1, r2) := h;clear h;replace H := qF H;rcases H with ⟨c3b0, c3b1, H⟩ | ⟨c3b0, c3b1, H⟩
 ·
  obtain ⟨y134, hy134⟩ : ∃ y_ : List Int, y_ = (([1] : List Int)) := ⟨_, rfl⟩;replace H : ((slices_Repeat_int_int.f y134 256).bind fun t137 => ((bin_Get.f a0 6 t137).bind fun bt140 => ((chart_spans.f k 0 bt140.1).bind fun t144 => (some (t144, bt140.2))))) = some (r1, r2) := by rw [hy134]; exact H
  have Ny134 := aK hy134;clear hy134;replace H := qS H;obtain ⟨t137, A4, H⟩ := H;replace H := qS H;obtain ⟨⟨t140, t141⟩, A5, H⟩ := H;try dsimp only at H
  replace H := qS H;obtain ⟨t144, A6, H⟩ := H;obtain ⟨rfl, rfl⟩ := qP H;go_enter Tryz.func76, Tryz.ntmps76;go_wp2_with (first | ((with_reducible refine gate_dst (N := 12) rfl ?_); refine Kd.R_lit (Kd.int .i64) _ 3 ?hg (N := 12) ?hd (xs := ([1] : List Int)) (inner := [.int .i64 1]) (ok := fun _ => True) (okp := fun _ => True) ?hr ?hp (fun _ hk => hk) trivial (Below.refl _ _) (Nat.le_refl _) (by simp) ?_; (case hd => rfl); (case hg => rfl); (case hr => exact hA); (case hp => exact (Reps.one (show Kd.M (Kd.int .i64) _ _ _ 1 [.int .i64 1] from rfl) (Reps.none _ _))); intro v135 w7 ho8 hb hg_ hnew_; clear hg_ hnew_; (first | rw [← Ny134.out] at ho8 | (simp only [Int.reduceToNat] at ho8; rw [← Ny134.out] at ho8)); have HO136 := aK (Kd.R_lower ho8 (below_size bA)); replace HB := aK (below_step bA hb); clear hb ho8; obtain ⟨Ao9, co9, eo9⟩ := Kd.R_slice HO136.out; subst eo9) | ((with_reducible refine gate_callee (f := 21) rfl ?_); refine gL_ 13 Tryz.func21 #[.slice Ao9 y134.length co9, .int .i64 256] ?_; (with_reducible refine (slices_Repeat_int_int.calls _ _ y134 256 t137 _ ?side1 ?side2 A4.out).mono ?_); (case side1 => exact cA (Kd.R_reads' HO136.out).2.2); (case side2 => exact (Kd.R_reads' HO136.out).2.1); rintro e w10 ⟨v138, rfl, ho0, hb⟩; refine ⟨_, rfl, ?_⟩; have HO139 := aK (Kd.R_lower (Kd.R_new' ho0 (Kd.R_lt (rA HO136.out))) (below_size bA)); replace HO136 := eL HO136 ho0 hb; replace HB := aK (below_step bA hb); (try clear hb ho0); obtain ⟨Ao11, co11, eo11⟩ := Kd.R_slice HO139.out; subst eo11) | ((with_reducible refine gate_callee (f := 20) rfl ?_); refine gL_ 14 Tryz.func20 #[.string a0, .int .i64 6, .slice Ao11 t137.length co11] ?_; (with_reducible refine (bin_Get.calls a0 6 _ _ t137 t140 t141 _ ?side1 ?side2 A5.out).mono ?_); (case side1 => exact cA (Kd.R_reads' HO139.out).2.2); (case side2 => exact (Kd.R_reads' HO139.out).2.1); rintro e w12 ⟨v142, rfl, ho0, hb⟩; refine ⟨_, rfl, ?_⟩; have HO143 := aK (Kd.R_lower (Kd.R_new' (Kd.R_new' ho0 (Kd.R_lt (rA HO136.out))) (Kd.R_lt (rA HO139.out))) (below_size bA)); replace HO136 := eL HO136 ho0 hb; replace HO139 := eL HO139 ho0 hb; replace HB := aK (below_step bA hb); (try clear hb ho0); obtain ⟨Ao13, co13, eo13⟩ := Kd.R_slice HO143.out; subst eo13) | ((with_reducible refine gate_callee (f := 105) rfl ?_); refine gL_ 18 Tryz.func105 #[.int .i64 0, .slice Ao13 t140.length co13] ?_; (with_reducible refine (chart_spans.calls k 0 _ _ t140 t144 _ ?side1 ?side2 A6.out).mono ?_); (case side1 => exact cA (Kd.R_reads' HO143.out).2.2); (case side2 => exact (Kd.R_reads' HO143.out).2.1); rintro e w14 ⟨v145, rfl, ho0, hb⟩; refine ⟨_, rfl, ?_⟩; have HO146 := aK (Kd.R_lower ho0 (below_size bA)); replace HO136 := aK (Kd.R_below (rA HO136.out) hb); replace HO139 := aK (Kd.R_below (rA HO139.out) hb); replace HO143 := aK (Kd.R_below (rA HO143.out) hb); replace HB := aK (below_step bA hb); (try clear hb ho0)))
  go_ret2;exact ⟨_, eA, rA HO146.out, bA⟩
 obtain ⟨rfl, rfl⟩ := qP H;go_enter Tryz.func76, Tryz.ntmps76;go_wp2;go_ret2;exact ⟨_, eA, nA, bA⟩
end Go.Proofs.YtejdflndgnpkcaaGreat.P
end
section
namespace Go.Proofs.YtejdflndgnpkcaaGreat.P
open Go.RowKit PW PL PM
def w2 (s : ByteArray) (p : Nat) : Int := takeN (s.extract p s.size) 2
def w1 (s : ByteArray) (p : Nat) : Int := takeN (s.extract p s.size) 1
theorem w2_bd (s : ByteArray) (p : Nat) : 0 ≤ w2 s p ∧ w2 s p ≤ 65535 := by
 unfold w2 takeN;rw [if_neg (by rintro ⟨h, _⟩; exact absurd h (by decide))];have := numAt_bd (s.extract p s.size) 2;have e4 : (256 : Int) ^ 2 = 65536 := by decide
 rw [e4] at this;have e : (2 : Int).natAbs = 2 := rfl;rw [e]; omega
theorem w1_bd (s : ByteArray) (p : Nat) : 0 ≤ w1 s p ∧ w1 s p ≤ 255 := by
 unfold w1 takeN;rw [if_neg (by rintro ⟨h, _⟩; exact absurd h (by decide))];have := numAt_bd (s.extract p s.size) 1;have e4 : (256 : Int) ^ 1 = 256 := by decide
 rw [e4] at this;have e : (1 : Int).natAbs = 1 := rfl;rw [e]; omega
theorem w1_bt (s : ByteArray) (p : Nat) (h : p < s.size) : w1 s p = bt s (p : Int) := by
 unfold w1 takeN;rw [if_neg (by rintro ⟨h, _⟩; exact absurd h (by decide))];have e : (1 : Int).natAbs = 1 := rfl;rw [e];have hb := bt_range s (p : Int);simp only [numAt];unfold bt;have h1 : ((0 : Nat) : Int).toNat < (s.extract p s.size).size := by simp; omega
 have h2 : ((p : Nat) : Int).toNat < s.size := by simp; omega
 first
  | (rw [dif_pos h1, dif_pos h2]; simp [ByteArray.getElem_extract])
  | (simp [h1, h2, ByteArray.getElem_extract, h])
theorem get_two (s : ByteArray) (p : Nat) : getN s (p : Int) [2, 2] = if p + 4 ≤ s.size then ([w2 s p, w2 s (p + 2)], 0) else ([], 4) := by
 have h := get_rep s (s := 2) (by decide) p 2;have e : repN [2] 2 = [2, 2] := rfl;have e2 : (2 : Int).natAbs = 2 := rfl;rw [e, e2] at h;refine Eq.trans h ?_;by_cases hc : p + 4 ≤ s.size
 ·
  rw [if_pos hc, if_pos (by omega), show List.range 2 = [0, 1] from by decide];rfl
 rw [if_neg hc, if_neg (by omega)]
theorem one_w2 (s : ByteArray) (p : Nat) (h : p + 2 ≤ s.size) (k : Nat) (hk : 16 ≤ k) : r03_One.f k (s.extract p (p + 2)) 2 = some (w2 s p) := one_at s p (s := 2) (by decide) 2 rfl h k hk
def spansN (a : Int) : List Int → List S61
 | [] => []
 | g :: r => if g = 0 then spansN (a + 1) r else ⟨a, a, g, 1⟩ :: spansN (a + 1) r
theorem spans_len (a : Int) : ∀ (L : List Int), ∀ b, (spansN b L).length ≤ L.length
 | [], b => Nat.le_refl _
 | g :: r, b => by
  unfold spansN;have := spans_len a r (b + 1);by_cases h : g = 0
  · rw [if_pos h, List.length_cons]; omega
  rw [if_neg h, List.length_cons, List.length_cons]; omega
theorem spans_snoc (g : Int) : ∀ (L : List Int) (a : Int), spansN a (L ++ [g]) = spansN a L ++ (if g = 0 then [] else [⟨a + L.length, a + L.length, g, 1⟩])
 | [], a => by
  unfold spansN;simp [spansN]
 | x :: r, a => by
  rw [List.cons_append];unfold spansN;rw [spans_snoc g r (a + 1)];have e : a + 1 + (r.length : Int) = a + ((x :: r).length : Int) := by rw [List.length_cons]; omega
  rw [e];by_cases h : x = 0
  · rw [if_pos h, if_pos h]
  rw [if_neg h, if_neg h, List.cons_append]
theorem spans_loop (L : List Int) (a : Int) (ha : 0 ≤ a) (hL : L.length ≤ 131072) (ha2 : a ≤ 131072) (d : Nat) : ∀ k i, L.length - i = d → i ≤ L.length → d + 1 ≤ k → chart_spans.l0 k a (spansN a (L.take i)) L (L.length : Int) (i : Int) = some (spansN a L) := by
 induction d with
 | zero =>
  intro k i hd hi hk;obtain ⟨k, rfl⟩ : ∃ n, k = n + 1 := ⟨k - 1, by omega⟩;have : i = L.length := by omega
  subst this;simp only [chart_spans.l0];rw [if_neg (by omega), List.take_length]
 | succ d ih =>
  intro k i hd hi hk;obtain ⟨k, rfl⟩ : ∃ n, k = n + 1 := ⟨k - 1, by omega⟩;have hlt : i < L.length := by omega
  have hw : wrap64 ((i : Int) + 1) = ((i + 1 : Nat) : Int) := by unfold wrap64; omega
  have hw1 : wrap64 (a + (i : Int)) = a + (i : Int) := by unfold wrap64; omega
  have hr : rd L (i : Int) = L[i] := by unfold rd; simp [List.getD_eq_getElem?_getD, List.getElem?_eq_getElem hlt]
  have ht : L.take (i + 1) = L.take i ++ [L[i]] := by rw [List.take_add_one, List.getElem?_eq_getElem hlt]; rfl
  have hs := spans_snoc L[i] (L.take i) a;rw [← ht] at hs;have hli : (L.take i).length = i := by rw [List.length_take]; omega
  rw [hli] at hs;have ih' := ih k (i + 1) (by omega) (by omega) (by omega);rw [hs] at ih';have hsl := spans_len a (L.take i) a;simp only [chart_spans.l0];rw [if_pos (by omega), if_pos (by omega), if_pos (by omega), hr, hw, hw1];by_cases hg : L[i] = 0
  ·
   rw [if_pos hg];rw [if_pos hg, List.append_nil] at ih';exact ih'
  rw [if_neg hg, if_pos (by omega)];rw [if_neg hg] at ih';exact ih'
theorem spans_told (L : List Int) (a : Int) (ha : 0 ≤ a) (hL : L.length ≤ 131072) (ha2 : a ≤ 131072) (k : Nat) (hk : L.length + 1 ≤ k) : chart_spans.f k a L = some (spansN a L) := by
 have := spans_loop L a ha hL ha2 L.length k 0 rfl (by omega) hk;rwa [List.take_zero] at this
def getC (s : ByteArray) : List S61 × Int :=
 if s.size < 4 then ([], 4)
 else if w2 s 0 = 0 then (if w2 s 2 = 262 then (if 262 ≤ s.size then (spansN 0 ((List.range 256).map (fun i => w1 s (6 + i))), 0) else ([], 4)) else ([], 5))
 else if w2 s 0 = 6 then (if s.size < 10 then ([], 4) else if w2 s 2 = 10 + 2 * w2 s 8 then (if (s.size : Int) < w2 s 2 then ([], 4) else if w2 s 6 + w2 s 8 > 65536 then ([], 5) else (spansN (w2 s 6) ((List.range (w2 s 8).toNat).map (fun i => w2 s (10 + 2 * i))), 0)) else ([], 5))
 else ([], 5)
theorem rep_told {z : Int} (n : Nat) (h : n ≤ 131072) : slices_Repeat_int_int.f [z] (n : Int) = some (repN [z] n) := by
 unfold slices_Repeat_int_int.f slices_Repeat.f;rw [if_pos (by refine ⟨by omega, by omega, Nat.lt_of_lt_of_le (by decide : (1 : Nat) < 2) (by decide), ?_⟩; show 1 * ((n : Int)).toNat ≤ _; omega)];rfl
theorem rep_one (z : Int) (k : Nat) : (repN [z] k).length = k := by rw [repN_length]; exact Nat.one_mul _
theorem getSmall_told (s : ByteArray) (n : Int) (k : Nat) (hk : 300 ≤ k) : chart_getSmall.f k s n = some (if n = 262 then (if 262 ≤ s.size then (spansN 0 ((List.range 256).map (fun i => w1 s (6 + i))), 0) else ([], 4)) else ([], 5)) := by
 unfold chart_getSmall.f;by_cases hn : n = 262
 ·
  have hr := rep_told (z := 1) 256 (by decide);have hr' : slices_Repeat_int_int.f [1] 256 = some (repN [1] 256) := hr;have hg := get_rep s (s := 1) (by decide) 6 256;have e2 : (1 : Int).natAbs = 1 := rfl;rw [e2] at hg;have hg' : getN s 6 (repN [1] 256) = if 6 + 1 * 256 ≤ s.size then ((List.range 256).map (fun i => takeN (s.extract (6 + 1 * i) s.size) 1), 0) else ([], 4) := hg
  rw [if_pos hn, if_pos hn, hr', Option.bind_some];unfold bin_Get.f;rw [if_pos (by rw [rep_one]; decide), hg', Option.bind_some];by_cases hs : 262 ≤ s.size
  ·
   rw [if_pos (show 6 + 1 * 256 ≤ s.size by omega), if_pos hs];simp only [Nat.one_mul];rw [spans_told _ 0 (by decide) (by simp) (by decide) k (by simp; omega)];rfl
  rw [if_neg (show ¬ 6 + 1 * 256 ≤ s.size by omega), if_neg hs];simp only;rw [spans_told [] 0 (by decide) (by simp) (by decide) k (by simp; omega)];rfl
 rw [if_neg hn, if_neg hn]
theorem put_eq (xs : List S61) (c g : Int) (h : xs.length < 4398046511104) : r08_put.f xs c g = some (xs ++ (if g = 0 then [] else [⟨c, c, g, 1⟩])) := by
 unfold r08_put.f;by_cases hg : g = 0
 · rw [if_pos hg, if_pos hg, List.append_nil]
 rw [if_neg hg, if_neg hg, if_pos h]
theorem ref_small (s : ByteArray) (hs : 262 ≤ s.size) (d : Nat) : ∀ k i, 256 - i = d → i ≤ 256 → d + 1 ≤ k → r08_Get.l0 k s (spansN 0 ((List.range i).map (fun j => w1 s (6 + j)))) (i : Int) = some (spansN 0 ((List.range 256).map (fun j => w1 s (6 + j))), 0) := by
 induction d with
 | zero =>
  intro k i hd hi hk;obtain ⟨k, rfl⟩ : ∃ n, k = n + 1 := ⟨k - 1, by omega⟩;have : i = 256 := by omega
  subst this;simp only [r08_Get.l0];rw [if_neg (by omega)]
 | succ d ih =>
  intro k i hd hi hk;obtain ⟨k, rfl⟩ : ∃ n, k = n + 1 := ⟨k - 1, by omega⟩;have hw : wrap64 ((i : Int) + 1) = ((i + 1 : Nat) : Int) := by unfold wrap64; omega
  have hw1 : wrap64 (6 + (i : Int)) = ((6 + i : Nat) : Int) := by unfold wrap64; omega
  have hb := w1_bd s (6 + i);have hw2 : wrap64 (w1 s (6 + i)) = w1 s (6 + i) := by unfold wrap64; omega
  have ih' := ih k (i + 1) (by omega) (by omega) (by omega);rw [List.range_succ, List.map_append, List.map_cons, List.map_nil, spans_snoc] at ih';have hl : (((List.range i).map (fun j => w1 s (6 + j))).length : Int) = (i : Int) := by simp
  rw [hl, Int.zero_add] at ih';have hsl := spans_len 0 ((List.range i).map (fun j => w1 s (6 + j))) 0;simp at hsl
  simp only [r08_Get.l0];rw [if_pos (by omega), hw1, if_pos (by omega), if_pos (by omega), ← w1_bt s (6 + i) (by omega), hw2, put_eq _ _ _ (by omega)];simp only [Option.bind_some];rw [hw];exact ih'
theorem ref_trim (s : ByteArray) (a : Int) (ha : 0 ≤ a) (ha2 : a ≤ 65535) (m : Nat) (hm : m ≤ 65535) (hs : 10 + 2 * m ≤ s.size) (d : Nat) : ∀ k i, m - i = d → i ≤ m → d + 20 ≤ k → r08_Get.l1 k s (spansN a ((List.range i).map (fun j => w2 s (10 + 2 * j)))) a (m : Int) (i : Int) = some (spansN a ((List.range m).map (fun j => w2 s (10 + 2 * j))), 0) := by
 induction d with
 | zero =>
  intro k i hd hi hk;obtain ⟨k, rfl⟩ : ∃ n, k = n + 1 := ⟨k - 1, by omega⟩;have : i = m := by omega
  subst this;simp only [r08_Get.l1];rw [if_neg (by omega)]
 | succ d ih =>
  intro k i hd hi hk;obtain ⟨k, rfl⟩ : ∃ n, k = n + 1 := ⟨k - 1, by omega⟩;have hw : wrap64 ((i : Int) + 1) = ((i + 1 : Nat) : Int) := by unfold wrap64; omega
  have x0 : wrap64 (2 * (i : Int)) = 2 * (i : Int) := by unfold wrap64; omega
  have x1 : wrap64 (10 + 2 * (i : Int)) = ((10 + 2 * i : Nat) : Int) := by unfold wrap64; omega
  have x2 : wrap64 (12 + 2 * (i : Int)) = ((10 + 2 * i + 2 : Nat) : Int) := by unfold wrap64; omega
  have x3 : wrap64 (a + (i : Int)) = a + (i : Int) := by unfold wrap64; omega
  have ih' := ih k (i + 1) (by omega) (by omega) (by omega);rw [List.range_succ, List.map_append, List.map_cons, List.map_nil, spans_snoc] at ih';have hl : (((List.range i).map (fun j => w2 s (10 + 2 * j))).length : Int) = (i : Int) := by simp
  rw [hl] at ih';have hsl := spans_len 0 ((List.range i).map (fun j => w2 s (10 + 2 * j))) a;simp at hsl
  simp only [r08_Get.l1];rw [if_pos (by omega), x0, x1, x2, x3, if_pos (by omega), if_pos (by omega), if_pos (by omega), Int.toNat_natCast, Int.toNat_natCast, one_w2 s (10 + 2 * i) (by omega) k (by omega)];simp only [Option.bind_some];rw [put_eq _ _ _ (by omega)];simp only [Option.bind_some];rw [hw];exact ih'
theorem get_ref (s : ByteArray) (k : Nat) (hk : 66000 ≤ k) : r08_Get.f k s = some (getC s) := by
 unfold r08_Get.f getC;by_cases hs : s.size < 4
 · rw [if_pos (show (s.size : Int) < 4 by omega), if_pos hs]
 rw [if_neg (show ¬ (s.size : Int) < 4 by omega), if_neg hs, if_pos (show (0 : Nat) ≤ 2 by decide), if_pos (show (2 : Int) ≤ (s.size : Int) by omega), one_w2 s 0 (by omega) k (by omega), Option.bind_some, if_pos (show (2 : Nat) ≤ 4 by decide), if_pos (show (4 : Int) ≤ (s.size : Int) by omega), one_w2 s 2 (by omega) k (by omega), Option.bind_some];by_cases h0 : w2 s 0 = 0
 ·
  rw [if_pos h0, if_pos h0];by_cases h1 : w2 s 2 = 262
  ·
   rw [if_pos h1, if_pos h1];by_cases h2 : 262 ≤ s.size
   ·
    rw [if_neg (show ¬ (s.size : Int) < 262 by omega), if_pos h2];exact ref_small s h2 256 k 0 rfl (by omega) (by omega)
   rw [if_pos (show (s.size : Int) < 262 by omega), if_neg h2]
  rw [if_neg h1, if_neg h1]
 rw [if_neg h0, if_neg h0];by_cases h6 : w2 s 0 = 6
 ·
  rw [if_pos h6, if_pos h6];by_cases h2 : s.size < 10
  · rw [if_pos (show (s.size : Int) < 10 by omega), if_pos h2]
  have b6 := w2_bd s 6;have b8 := w2_bd s 8;have x1 : wrap64 (2 * w2 s 8) = 2 * w2 s 8 := by unfold wrap64; omega
  have x2 : wrap64 (10 + 2 * w2 s 8) = 10 + 2 * w2 s 8 := by unfold wrap64; omega
  have x3 : wrap64 (w2 s 6 + w2 s 8) = w2 s 6 + w2 s 8 := by unfold wrap64; omega
  rw [if_neg (show ¬ (s.size : Int) < 10 by omega), if_neg h2, if_pos (show (6 : Nat) ≤ 8 by decide), if_pos (show (8 : Int) ≤ (s.size : Int) by omega), one_w2 s 6 (by omega) k (by omega), Option.bind_some, if_pos (show (8 : Nat) ≤ 10 by decide), if_pos (show (10 : Int) ≤ (s.size : Int) by omega), one_w2 s 8 (by omega) k (by omega), Option.bind_some, x1, x2, x3];by_cases h3 : w2 s 2 = 10 + 2 * w2 s 8
  ·
   rw [if_pos h3, if_pos h3];by_cases h4 : (s.size : Int) < w2 s 2
   · rw [if_pos h4, if_pos h4]
   rw [if_neg h4, if_neg h4];by_cases h5 : w2 s 6 + w2 s 8 > 65536
   · rw [if_pos h5, if_pos h5]
   rw [if_neg h5, if_neg h5];obtain ⟨m, hm⟩ := Int.eq_ofNat_of_zero_le b8.1;rw [hm, Int.toNat_natCast];exact ref_trim s (w2 s 6) b6.1 b6.2 m (by omega) (by omega) m k 0 rfl (by omega) (by omega)
  rw [if_neg h3, if_neg h3]
 rw [if_neg h6, if_neg h6]
end Go.Proofs.YtejdflndgnpkcaaGreat.P
end
