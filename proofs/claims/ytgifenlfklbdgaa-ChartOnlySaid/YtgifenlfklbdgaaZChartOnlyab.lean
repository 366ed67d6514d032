/- A part of the proof of the law ChartOnly: the words, contracts and plain facts that it needs, no more. Each says its own condition. -/
import Derived.Test.YtgifenlfklbdgaaZChartOnlyv
import Derived.Test.YtgifenlfklbdgaaZChartOnlyy
import Derived.Test.YtgifenlfklbdgaaZChartOnlyaa
import Derived.Test.YtgifenlfklbdgaaZChartOnlyg
import Derived.Test.YtgifenlfklbdgaaZChartOnlyr
import Derived.Test.YtgifenlfklbdgaaZChartOnlym
import Derived.Test.YtgifenlfklbdgaaZChartOnlyz
section
namespace Go.Proofs.Ytgifenlfklbdgaa.P
open Go.RowKit Go.Proofs.YtgifenlfklbdgaaW.PrintWords Go.Proofs.YtgifenlfklbdgaaW.PrintLast Go.Proofs.YtgifenlfklbdgaaW.PrintMore
set_option linter.unusedSimpArgs false
set_option linter.unusedVariables false
theorem rd_get (l : List S42) (i : Nat) (h : i < l.length) : rd_T42 l (i : Int) = l[i] := by
  rw [rd_atS, atS_get l i h]
end Go.Proofs.Ytgifenlfklbdgaa.P
end
section
namespace Go.Proofs.Ytgifenlfklbdgaa.P
open Go.RowKit Go.Proofs.YtgifenlfklbdgaaW.PrintWords Go.Proofs.YtgifenlfklbdgaaW.PrintLast Go.Proofs.YtgifenlfklbdgaaW.PrintMore
set_option linter.unusedSimpArgs false
set_option linter.unusedVariables false
def w2 (s : ByteArray) (p : Nat) : Int := takeN (s.extract p s.size) 2
def w1 (s : ByteArray) (p : Nat) : Int := takeN (s.extract p s.size) 1
theorem w2_bd (s : ByteArray) (p : Nat) : 0 ≤ w2 s p ∧ w2 s p ≤ 65535 := by
  unfold w2 takeN
  rw [if_neg (by rintro ⟨h, _⟩; exact absurd h (by decide))]
  have := numAt_bd (s.extract p s.size) 2
  have e4 : (256 : Int) ^ 2 = 65536 := by decide
  rw [e4] at this
  have e : (2 : Int).natAbs = 2 := rfl
  rw [e]; omega
theorem w1_bd (s : ByteArray) (p : Nat) : 0 ≤ w1 s p ∧ w1 s p ≤ 255 := by
  unfold w1 takeN
  rw [if_neg (by rintro ⟨h, _⟩; exact absurd h (by decide))]
  have := numAt_bd (s.extract p s.size) 1
  have e4 : (256 : Int) ^ 1 = 256 := by decide
  rw [e4] at this
  have e : (1 : Int).natAbs = 1 := rfl
  rw [e]; omega
theorem w1_bt (s : ByteArray) (p : Nat) (h : p < s.size) : w1 s p = bt s (p : Int) := by
  unfold w1 takeN
  rw [if_neg (by rintro ⟨h, _⟩; exact absurd h (by decide))]
  have e : (1 : Int).natAbs = 1 := rfl
  rw [e]
  have hb := bt_range s (p : Int)
  simp only [numAt]
  unfold bt
  have h1 : ((0 : Nat) : Int).toNat < (s.extract p s.size).size := by simp; omega
  have h2 : ((p : Nat) : Int).toNat < s.size := by simp; omega
  first
    | (rw [dif_pos h1, dif_pos h2]; simp [ByteArray.getElem_extract])
    | (simp [h1, h2, ByteArray.getElem_extract, h])
theorem get_two (s : ByteArray) (p : Nat) : getN s (p : Int) [2, 2] = if p + 4 ≤ s.size then ([w2 s p, w2 s (p + 2)], 0) else ([], 4) := by
  have h := get_rep s (s := 2) (by decide) p 2
  have e : repN [2] 2 = [2, 2] := rfl
  have e2 : (2 : Int).natAbs = 2 := rfl
  rw [e, e2] at h
  refine Eq.trans h ?_
  by_cases hc : p + 4 ≤ s.size
  · rw [if_pos hc, if_pos (by omega), show List.range 2 = [0, 1] from by decide]
    rfl
  · rw [if_neg hc, if_neg (by omega)]
def spansN (a : Int) : List Int → List S42
  | [] => []
  | g :: r => if g = 0 then spansN (a + 1) r else ⟨a, a, g, 1⟩ :: spansN (a + 1) r
theorem spans_len (a : Int) : ∀ (L : List Int), ∀ b, (spansN b L).length ≤ L.length
  | [], b => Nat.le_refl _
  | g :: r, b => by
    unfold spansN
    have := spans_len a r (b + 1)
    by_cases h : g = 0
    · rw [if_pos h, List.length_cons]; omega
    · rw [if_neg h, List.length_cons, List.length_cons]; omega
theorem spans_snoc (g : Int) : ∀ (L : List Int) (a : Int), spansN a (L ++ [g]) = spansN a L ++ (if g = 0 then [] else [⟨a + L.length, a + L.length, g, 1⟩])
  | [], a => by
    unfold spansN
    simp [spansN]
  | x :: r, a => by
    rw [List.cons_append]
    unfold spansN
    rw [spans_snoc g r (a + 1)]
    have e : a + 1 + (r.length : Int) = a + ((x :: r).length : Int) := by rw [List.length_cons]; omega
    rw [e]
    by_cases h : x = 0
    · rw [if_pos h, if_pos h]
    · rw [if_neg h, if_neg h, List.cons_append]
theorem spans_loop (L : List Int) (a : Int) (ha : 0 ≤ a) (hL : L.length ≤ 131072) (ha2 : a ≤ 131072) (d : Nat) : ∀ k i, L.length - i = d → i ≤ L.length → d + 1 ≤ k → chart_spans.l0 k a (spansN a (L.take i)) L (L.length : Int) (i : Int) = some (spansN a L) := by
  induction d with
  | zero =>
    intro k i hd hi hk
    obtain ⟨k, rfl⟩ : ∃ n, k = n + 1 := ⟨k - 1, by omega⟩
    have : i = L.length := by omega
    subst this
    simp only [chart_spans.l0]
    rw [if_neg (by omega), List.take_length]
  | succ d ih =>
    intro k i hd hi hk
    obtain ⟨k, rfl⟩ : ∃ n, k = n + 1 := ⟨k - 1, by omega⟩
    have hlt : i < L.length := by omega
    have hw : wrap64 ((i : Int) + 1) = ((i + 1 : Nat) : Int) := by unfold wrap64; omega
    have hw1 : wrap64 (a + (i : Int)) = a + (i : Int) := by unfold wrap64; omega
    have hr : rd L (i : Int) = L[i] := by unfold rd; simp [List.getD_eq_getElem?_getD, List.getElem?_eq_getElem hlt]
    have ht : L.take (i + 1) = L.take i ++ [L[i]] := by rw [List.take_add_one, List.getElem?_eq_getElem hlt]; rfl
    have hs := spans_snoc L[i] (L.take i) a
    rw [← ht] at hs
    have hli : (L.take i).length = i := by rw [List.length_take]; omega
    rw [hli] at hs
    have ih' := ih k (i + 1) (by omega) (by omega) (by omega)
    rw [hs] at ih'
    have hsl := spans_len a (L.take i) a
    simp only [chart_spans.l0]
    rw [if_pos (by omega), if_pos (by omega), if_pos (by omega), hr, hw, hw1]
    by_cases hg : L[i] = 0
    · rw [if_pos hg]
      rw [if_pos hg, List.append_nil] at ih'
      exact ih'
    · rw [if_neg hg, if_pos (by omega)]
      rw [if_neg hg] at ih'
      exact ih'
theorem spans_told (L : List Int) (a : Int) (ha : 0 ≤ a) (hL : L.length ≤ 131072) (ha2 : a ≤ 131072) (k : Nat) (hk : L.length + 1 ≤ k) : chart_spans.f k a L = some (spansN a L) := by
  have := spans_loop L a ha hL ha2 L.length k 0 rfl (by omega) hk
  rwa [List.take_zero] at this
def getC (s : ByteArray) : List S42 × Int :=
  if s.size < 4 then ([], 4)
  else if w2 s 0 = 0 then (if w2 s 2 = 262 then (if 262 ≤ s.size then (spansN 0 ((List.range 256).map (fun i => w1 s (6 + i))), 0) else ([], 4)) else ([], 5))
  else if w2 s 0 = 6 then (if s.size < 10 then ([], 4) else if w2 s 2 = 10 + 2 * w2 s 8 then (if (s.size : Int) < w2 s 2 then ([], 4) else if w2 s 6 + w2 s 8 > 65536 then ([], 5) else (spansN (w2 s 6) ((List.range (w2 s 8).toNat).map (fun i => w2 s (10 + 2 * i))), 0)) else ([], 5))
  else ([], 5)
theorem rep_told {z : Int} (n : Nat) (h : n ≤ 131072) : slices_Repeat_int_int.f [z] (n : Int) = some (repN [z] n) := by
  unfold slices_Repeat_int_int.f slices_Repeat.f
  rw [if_pos (by refine ⟨by omega, by omega, Nat.lt_of_lt_of_le (by decide : (1 : Nat) < 2) (by decide), ?_⟩; show 1 * ((n : Int)).toNat ≤ _; omega)]
  rfl
theorem rep_one (z : Int) (k : Nat) : (repN [z] k).length = k := by rw [repN_length]; exact Nat.one_mul _
theorem getSmall_told (s : ByteArray) (n : Int) (k : Nat) (hk : 300 ≤ k) : chart_getSmall.f k s n = some (if n = 262 then (if 262 ≤ s.size then (spansN 0 ((List.range 256).map (fun i => w1 s (6 + i))), 0) else ([], 4)) else ([], 5)) := by
  unfold chart_getSmall.f
  by_cases hn : n = 262
  · have hr := rep_told (z := 1) 256 (by decide)
    have hr' : slices_Repeat_int_int.f [1] 256 = some (repN [1] 256) := hr
    have hg := get_rep s (s := 1) (by decide) 6 256
    have e2 : (1 : Int).natAbs = 1 := rfl
    rw [e2] at hg
    have hg' : getN s 6 (repN [1] 256) = if 6 + 1 * 256 ≤ s.size then ((List.range 256).map (fun i => takeN (s.extract (6 + 1 * i) s.size) 1), 0) else ([], 4) := hg
    rw [if_pos hn, if_pos hn, hr', Option.bind_some]
    unfold bin_Get.f
    rw [if_pos (by rw [rep_one]; decide), hg', Option.bind_some]
    by_cases hs : 262 ≤ s.size
    · rw [if_pos (show 6 + 1 * 256 ≤ s.size by omega), if_pos hs]
      simp only [Nat.one_mul]
      rw [spans_told _ 0 (by decide) (by simp) (by decide) k (by simp; omega)]
      rfl
    · rw [if_neg (show ¬ 6 + 1 * 256 ≤ s.size by omega), if_neg hs]
      simp only
      rw [spans_told [] 0 (by decide) (by simp) (by decide) k (by simp; omega)]
      rfl
  · rw [if_neg hn, if_neg hn]
theorem getTrimmed_told (s : ByteArray) (n : Int) (k : Nat) (hk : 66000 ≤ k) : chart_getTrimmed.f k s n = some (if s.size < 10 then ([], 4) else if n = 10 + 2 * w2 s 8 then (if (s.size : Int) < n then ([], 4) else if w2 s 6 + w2 s 8 > 65536 then ([], 5) else (spansN (w2 s 6) ((List.range (w2 s 8).toNat).map (fun i => w2 s (10 + 2 * i))), 0)) else ([], 5)) := by
  unfold chart_getTrimmed.f
  have hg := get_two s 6
  have hg' : getN s 6 [2, 2] = if 6 + 4 ≤ s.size then ([w2 s 6, w2 s (6 + 2)], 0) else ([], 4) := hg
  have hb : bin_Get.f s 6 [2, 2] = some (getN s 6 [2, 2]) := by unfold bin_Get.f; rw [if_pos (by decide)]
  rw [hb, Option.bind_some, hg']
  by_cases hs : s.size < 10
  · rw [if_pos hs, if_neg (show ¬ 6 + 4 ≤ s.size by omega)]
    simp only
    rw [if_neg (show ¬ (4 : Int) = 0 by decide)]
  · rw [if_neg hs, if_pos (show 6 + 4 ≤ s.size by omega)]
    have b6 := w2_bd s 6
    have b8 := w2_bd s 8
    have r0 : rd [w2 s 6, w2 s (6 + 2)] 0 = w2 s 6 := rfl
    have r1 : rd [w2 s 6, w2 s (6 + 2)] 1 = w2 s 8 := rfl
    have hl : (([w2 s 6, w2 s (6 + 2)] : List Int).length : Int) = 2 := rfl
    have x1 : wrap64 (2 * w2 s 8) = 2 * w2 s 8 := by unfold wrap64; omega
    have x2 : wrap64 (10 + 2 * w2 s 8) = 10 + 2 * w2 s 8 := by unfold wrap64; omega
    have x3 : wrap64 (w2 s 6 + w2 s 8) = w2 s 6 + w2 s 8 := by unfold wrap64; omega
    simp only
    rw [r0, r1, hl, x1, x2, x3, if_pos trivial, if_pos (show (1 : Int) < 2 by decide), if_pos (show (0 : Int) < 2 by decide)]
    by_cases hn : n = 10 + 2 * w2 s 8
    · rw [if_pos hn, if_pos hn]
      by_cases h2 : (s.size : Int) < n
      · rw [if_pos h2, if_pos h2]
      · rw [if_neg h2, if_neg h2]
        by_cases h3 : w2 s 6 + w2 s 8 > 65536
        · rw [if_pos h3, if_pos h3]
        · rw [if_neg h3, if_neg h3]
          obtain ⟨m, hm⟩ := Int.eq_ofNat_of_zero_le b8.1
          have hr := rep_told (z := 2) m (by omega)
          have hgr := get_rep s (s := 2) (by decide) 10 m
          have e2 : (2 : Int).natAbs = 2 := rfl
          rw [e2] at hgr
          have hgr' : getN s 10 (repN [2] m) = if 10 + 2 * m ≤ s.size then ((List.range m).map (fun i => takeN (s.extract (10 + 2 * i) s.size) 2), 0) else ([], 4) := hgr
          rw [hm, hr, Option.bind_some, Int.toNat_natCast]
          unfold bin_Get.f
          rw [if_pos (by rw [rep_one]; omega), hgr', Option.bind_some, if_pos (show 10 + 2 * m ≤ s.size by omega)]
          simp only
          rw [spans_told _ (w2 s 6) b6.1 (by simp; omega) (by omega) k (by simp; omega)]
          rfl
    · rw [if_neg hn, if_neg hn]
theorem get_told (s : ByteArray) (k : Nat) (hk : 66000 ≤ k) : chart_Get.f k s = some (getC s) := by
  unfold chart_Get.f getC
  have hg := get_two s 0
  have hg' : getN s 0 [2, 2] = if 0 + 4 ≤ s.size then ([w2 s 0, w2 s (0 + 2)], 0) else ([], 4) := hg
  have hb : bin_Get.f s 0 [2, 2] = some (getN s 0 [2, 2]) := by unfold bin_Get.f; rw [if_pos (by decide)]
  rw [hb, Option.bind_some, hg']
  by_cases hs : s.size < 4
  · rw [if_pos hs, if_neg (show ¬ 0 + 4 ≤ s.size by omega)]
    simp only
    rw [if_neg (show ¬ (4 : Int) = 0 by decide)]
  · rw [if_neg hs, if_pos (show 0 + 4 ≤ s.size by omega)]
    have r0 : rd [w2 s 0, w2 s (0 + 2)] 0 = w2 s 0 := rfl
    have r1 : rd [w2 s 0, w2 s (0 + 2)] 1 = w2 s 2 := rfl
    have hl : (([w2 s 0, w2 s (0 + 2)] : List Int).length : Int) = 2 := rfl
    simp only
    rw [r0, r1, hl, if_pos trivial, if_pos (show (0 : Int) < 2 by decide), if_pos (show (1 : Int) < 2 by decide), getSmall_told s _ k (by omega), getTrimmed_told s _ k hk]
    simp only [Option.bind_some]
    by_cases h0 : w2 s 0 = 0
    · rw [if_pos h0, if_pos h0]
    · rw [if_neg h0, if_neg h0]
      by_cases h6 : w2 s 0 = 6
      · rw [if_pos h6, if_pos h6, if_pos (show (1 : Int) < 2 by decide)]
      · rw [if_neg h6, if_neg h6]
end Go.Proofs.Ytgifenlfklbdgaa.P
end
section
namespace Go.Proofs.Ytgifenlfklbdgaa.P
open Go.RowKit Go.Proofs.YtgifenlfklbdgaaW.PrintWords Go.Proofs.YtgifenlfklbdgaaW.PrintLast Go.Proofs.YtgifenlfklbdgaaW.PrintMore
set_option linter.unusedSimpArgs false
set_option linter.unusedVariables false
theorem spans_mem : ∀ (L : List Int) (a : Int) (x : S42), x ∈ spansN a L → x.f0 = x.f1 ∧ a ≤ x.f0 ∧ x.f0 < a + L.length ∧ x.f2 ≠ 0 ∧ x.f3 = 1 ∧ x.f2 ∈ L
  | [], a, x, h => by simp [spansN] at h
  | g :: r, a, x, h => by
    unfold spansN at h
    by_cases hg : g = 0
    · rw [if_pos hg] at h
      obtain ⟨h1, h2, h3, h4, h5, h6⟩ := spans_mem r (a + 1) x h
      refine ⟨h1, by omega, by rw [List.length_cons]; omega, h4, h5, List.mem_cons_of_mem _ h6⟩
    · rw [if_neg hg] at h
      rcases List.mem_cons.1 h with e | hm
      · rw [e]
        refine ⟨rfl, Int.le_refl _, by simp; omega, hg, rfl, List.mem_cons_self⟩
      · obtain ⟨h1, h2, h3, h4, h5, h6⟩ := spans_mem r (a + 1) x hm
        refine ⟨h1, by omega, by rw [List.length_cons]; omega, h4, h5, List.mem_cons_of_mem _ h6⟩
theorem ord_mk {x : S42} {l : List S42} (h : ∀ y ∈ l, x.f1 < y.f0) (ho : ordN l = true) : ordN (x :: l) = true := by
  cases l with
  | nil => rfl
  | cons y r => rw [ord_step, decide_eq_true (h y List.mem_cons_self), Bool.true_and]; exact ho
theorem spans_ord : ∀ (L : List Int) (a : Int), ordN (spansN a L) = true
  | [], a => rfl
  | g :: r, a => by
    unfold spansN
    by_cases hg : g = 0
    · rw [if_pos hg]; exact spans_ord r (a + 1)
    · rw [if_neg hg]
      refine ord_mk (fun y hy => ?_) (spans_ord r (a + 1))
      have := (spans_mem r (a + 1) y hy).2.1
      show a < y.f0
      omega
theorem spans_right {L : List Int} {a : Int} (ha : 0 ≤ a) (hb : a + L.length ≤ 65536) (hL : ∀ g ∈ L, 0 ≤ g ∧ g ≤ 65535) : ∀ x ∈ spansN a L, rightN x = true := fun x hx => by
  obtain ⟨h1, h2, h3, h4, h5, h6⟩ := spans_mem L a x hx
  have := hL _ h6
  rw [right_iff]
  refine ⟨by omega, by omega, by omega, .inr h5, by omega, by omega, ?_⟩
  rw [h1, show x.f1 - x.f1 = 0 by omega, Int.mul_zero]; omega
theorem spans_isL {L : List Int} {a : Int} (ha : 0 ≤ a) (hb : a + L.length ≤ 65536) (hL : ∀ g ∈ L, 0 ≤ g ∧ g ≤ 65535) : isL (spansN a L) = true :=
  isL_mk (by have := spans_len a L a; omega) (spans_right ha hb hL) (spans_ord L a)
theorem last_ge : ∀ (l : List S42) (a : Int), (∀ y ∈ l, rightN y = true) → ordN l = true → ∀ x ∈ l, hasN x = true → x.f1 ≤ lastN a l
  | [], a, _, _, x, hx, _ => by simp at hx
  | z :: r, a, hr, ho, x, hx, hh => by
    have hr' := fun q hq => hr q (List.mem_cons_of_mem _ hq)
    rw [last_step]
    rcases List.mem_cons.1 hx with e | hm
    · subst e
      rw [hh, if_pos rfl]
      refine (last_in r x.f1 hr' (fun y hy => ?_) (ord_cons ho)).1
      have := ord_head hr' ho y hy
      obtain ⟨_, a1, _⟩ := (right_iff y).1 (hr' y hy)
      omega
    · exact last_ge r _ hr' (ord_cons ho) x hm hh
theorem ends_hold : ∀ (l : List S42), (∀ y ∈ l, rightN y = true) → ordN l = true → ∀ x ∈ l, hasN x = true → (endsN l).2.2 = true ∧ (endsN l).1 ≤ fstAt x ∧ x.f1 ≤ (endsN l).2.1
  | [], _, _, x, hx, _ => by simp at hx
  | z :: r, hr, ho, x, hx, hh => by
    have hr' := fun q hq => hr q (List.mem_cons_of_mem _ hq)
    unfold endsN
    cases hq : hasN z with
    | true =>
      rw [if_pos rfl]
      refine ⟨rfl, ?_, last_ge (z :: r) _ hr ho x hx hh⟩
      rcases List.mem_cons.1 hx with e | hm
      · rw [e]; exact Int.le_refl _
      · have h1 := ord_head hr' ho x hm
        have h2 := fst_in (hr z List.mem_cons_self) hq
        have h3 := fst_in (hr' x hm) hh
        show fstAt z ≤ fstAt x
        omega
    | false =>
      rw [if_neg Bool.false_ne_true]
      rcases List.mem_cons.1 hx with e | hm
      · rw [e, hq] at hh; exact absurd hh (by decide)
      · exact ends_hold r hr' (ord_cons ho) x hm hh
theorem w2_at (pre : List UInt8) (v : Int) (r : List UInt8) (h0 : 0 ≤ v) (h1 : v ≤ 65535) (p : Nat) (hp : pre.length = p) : w2 ⟨(pre ++ (bytesN v 2 ++ r)).toArray⟩ p = v := by
  unfold w2
  rw [← hp, ba_drop]
  exact take_bytes (s := 2) (by decide) (fits2 h0 h1) r
theorem w1_at (pre : List UInt8) (b : UInt8) (r : List UInt8) (p : Nat) (hp : pre.length = p) : w1 ⟨(pre ++ (b :: r)).toArray⟩ p = (b.toNat : Int) := by
  rw [w1_bt _ _ (by rw [ba_size, List.length_append, List.length_cons]; omega), bt_at _ _ (by rw [List.length_append, List.length_cons]; omega)]
  subst hp
  simp
theorem smallB_length (l : List S42) : (smallB l).length = 262 := by unfold smallB; simp
theorem byteG_val {l : List S42} (h : isL l = true) {c : Nat} (hc : lookN l (c : Int) < 256) : ((byteG l c).toNat : Int) = lookN l (c : Int) := by
  have := look_bd h (c : Int)
  unfold byteG
  have e : lookN l (c : Int) % 256 = lookN l (c : Int) := by omega
  rw [e]
  simp
  omega
theorem small_get {l : List S42} (h : isL l = true) (hok : smallOk l = true) : getC ⟨(smallB l).toArray⟩ = (spansN 0 ((List.range 256).map (fun c : Nat => lookN l (c : Int))), 0) := by
  have hsz : (⟨(smallB l).toArray⟩ : ByteArray).size = 262 := by rw [ba_size, smallB_length]
  obtain ⟨R, hR⟩ : ∃ R, R = (List.range 256).map (byteG l) := ⟨_, rfl⟩
  have b0 : bytesN 0 2 = [0, 0] := by decide +kernel
  have b1 : bytesN 262 2 = [1, 6] := by decide +kernel
  have hS : smallB l = [0, 0, 1, 6, 0, 0] ++ R := by rw [hR]; rfl
  have e0 : w2 ⟨(smallB l).toArray⟩ 0 = 0 := by
    have : smallB l = [] ++ (bytesN 0 2 ++ ([1, 6, 0, 0] ++ R)) := by rw [hS, b0]; rfl
    rw [this]; exact w2_at _ _ _ (by decide) (by decide) 0 rfl
  have e2 : w2 ⟨(smallB l).toArray⟩ 2 = 262 := by
    have : smallB l = [0, 0] ++ (bytesN 262 2 ++ ([0, 0] ++ R)) := by rw [hS, b1]; rfl
    rw [this]; exact w2_at _ _ _ (by decide) (by decide) 2 rfl
  clear hS hR R
  have e3 : (List.range 256).map (fun i => w1 ⟨(smallB l).toArray⟩ (6 + i)) = (List.range 256).map (fun c : Nat => lookN l (c : Int)) := by
    apply List.map_congr_left
    intro i hi
    have hi' := List.mem_range.1 hi
    have hlt : lookN l (i : Int) < 256 := of_decide_eq_true (List.all_eq_true.1 hok i hi)
    rw [← byteG_val h hlt]
    have hsplit : (List.range 256).map (byteG l) = ((List.range 256).map (byteG l)).take i ++ (byteG l i :: ((List.range 256).map (byteG l)).drop (i + 1)) := by
      have hl : i < ((List.range 256).map (byteG l)).length := by simpa using hi'
      have hg : ((List.range 256).map (byteG l))[i] = byteG l i := by simp
      rw [← hg, ← List.drop_eq_getElem_cons hl, List.take_append_drop]
    have hB : smallB l = ([0, 0, 1, 6, 0, 0] ++ ((List.range 256).map (byteG l)).take i) ++ (byteG l i :: ((List.range 256).map (byteG l)).drop (i + 1)) := by
      unfold smallB
      conv => lhs; rw [hsplit]
      rw [List.append_assoc]
    rw [hB]
    exact w1_at _ _ _ (6 + i) (by simp; omega)
  unfold getC
  rw [hsz, if_neg (by decide), e0, if_pos rfl, e2, if_pos rfl, if_pos (by decide), e3]
theorem trim_get {l : List S42} (h : isL l = true) {a : Int} {m : Nat} (ha : 0 ≤ a) (ha2 : a + m ≤ 65536) (ha3 : a ≤ 65535) (hm : m ≤ 32762) (more : List UInt8) : getC ⟨(headT a m ++ glyphsT l a m ++ more).toArray⟩ = (spansN a ((List.range m).map (fun i : Nat => lookN l (a + (i : Int)))), 0) := by
  obtain ⟨B, hB⟩ : ∃ B, B = headT a m ++ glyphsT l a m ++ more := ⟨_, rfl⟩
  have hsz : (⟨B.toArray⟩ : ByteArray).size = 10 + 2 * m + more.length := by rw [ba_size, hB, List.length_append, List.length_append, headT_length, glyphsT_length]
  have e0 : w2 ⟨B.toArray⟩ 0 = 6 := by
    have : B = [] ++ (bytesN 6 2 ++ (bytesN (10 + 2 * (m : Int)) 2 ++ (bytesN 0 2 ++ (bytesN a 2 ++ (bytesN (m : Int) 2 ++ []))) ++ glyphsT l a m ++ more)) := by rw [hB]; unfold headT; simp
    rw [this]; exact w2_at _ _ _ (by decide) (by decide) 0 rfl
  have e2 : w2 ⟨B.toArray⟩ 2 = 10 + 2 * (m : Int) := by
    have : B = bytesN 6 2 ++ (bytesN (10 + 2 * (m : Int)) 2 ++ ((bytesN 0 2 ++ (bytesN a 2 ++ (bytesN (m : Int) 2 ++ []))) ++ glyphsT l a m ++ more)) := by rw [hB]; unfold headT; simp
    rw [this]; exact w2_at _ _ _ (by omega) (by omega) 2 (bytesN_length _ _)
  have e6 : w2 ⟨B.toArray⟩ 6 = a := by
    have : B = (bytesN 6 2 ++ bytesN (10 + 2 * (m : Int)) 2 ++ bytesN 0 2) ++ (bytesN a 2 ++ ((bytesN (m : Int) 2 ++ []) ++ glyphsT l a m ++ more)) := by rw [hB]; unfold headT; simp
    rw [this]; exact w2_at _ _ _ ha ha3 6 (by simp [bytesN_length])
  have e8 : w2 ⟨B.toArray⟩ 8 = (m : Int) := by
    have : B = (bytesN 6 2 ++ bytesN (10 + 2 * (m : Int)) 2 ++ bytesN 0 2 ++ bytesN a 2) ++ (bytesN (m : Int) 2 ++ (glyphsT l a m ++ more)) := by rw [hB]; unfold headT; simp
    rw [this]; exact w2_at _ _ _ (by omega) (by omega) 8 (by simp [bytesN_length])
  have e3 : (List.range m).map (fun i => w2 ⟨B.toArray⟩ (10 + 2 * i)) = (List.range m).map (fun i : Nat => lookN l (a + (i : Int))) := by
    apply List.map_congr_left
    intro i hi
    have hi' := List.mem_range.1 hi
    have hb := look_bd h (a + (i : Int))
    have hsplit : ∀ n, i < n → glyphsT l a n = glyphsT l a i ++ (bytesN (lookN l (a + (i : Int))) 2 ++ (glyphsT l a n).drop (2 * i + 2)) := by
      intro n
      induction n with
      | zero => intro h; omega
      | succ n ih =>
        intro hin
        rw [glyphsT_succ]
        rcases Nat.lt_or_ge i n with h1 | h1
        · have := ih h1
          have hd : (glyphsT l a n ++ bytesN (lookN l (a + (n : Int))) 2).drop (2 * i + 2) = (glyphsT l a n).drop (2 * i + 2) ++ bytesN (lookN l (a + (n : Int))) 2 := by
            rw [List.drop_append_of_le_length (by rw [glyphsT_length]; omega)]
          rw [hd]
          conv => lhs; rw [this]
          simp only [List.append_assoc]
        · have : i = n := by omega
          subst this
          rw [List.drop_of_length_le (by rw [List.length_append, glyphsT_length, bytesN_length]; omega), List.append_nil]
    have hBB : B = (headT a m ++ glyphsT l a i) ++ (bytesN (lookN l (a + (i : Int))) 2 ++ ((glyphsT l a m).drop (2 * i + 2) ++ more)) := by
      rw [hB]
      conv => lhs; rw [hsplit m hi']
      simp only [List.append_assoc]
    rw [hBB]
    exact w2_at _ _ _ hb.1 hb.2 (10 + 2 * i) (by rw [List.length_append, headT_length, glyphsT_length])
  rw [← hB]
  unfold getC
  rw [hsz, if_neg (by omega), e0, if_neg (by decide), if_pos rfl, if_neg (by omega), e2, e8, if_pos rfl, if_neg (by omega), e6, if_neg (by omega), Int.toNat_natCast, e3]
theorem spans_same : ∀ (m : Nat) (a : Int) (l : List S42), (∀ x ∈ l, x.f0 = x.f1 ∧ x.f2 ≠ 0 ∧ x.f3 = 1 ∧ a ≤ x.f0 ∧ x.f0 < a + m) → ordN l = true → spansN a ((List.range m).map (fun i : Nat => linN l (a + (i : Int)))) = l
  | 0, a, l, h, _ => by
    cases l with
    | nil => rfl
    | cons x r =>
      obtain ⟨_, _, _, h1, h2⟩ := h x List.mem_cons_self
      omega
  | m + 1, a, l, h, ho => by
    have hshift : ∀ (q : List S42), (List.range (m + 1)).map (fun i : Nat => linN q (a + (i : Int))) = linN q a :: (List.range m).map (fun i : Nat => linN q (a + 1 + (i : Int))) := fun q => by
      rw [List.range_succ_eq_map, List.map_cons, List.map_map]
      congr 1
      · simp
      · apply List.map_congr_left
        intro i _
        simp only [Function.comp_apply, Nat.succ_eq_add_one]
        congr 1
        omega
    rw [hshift]
    unfold spansN
    cases l with
    | nil =>
      rw [if_pos (show linN [] a = 0 from rfl)]
      exact spans_same m (a + 1) [] (fun x hx => by simp at hx) rfl
    | cons x r =>
      obtain ⟨h1, h2, h3, h4, h5⟩ := h x List.mem_cons_self
      have hrr : ∀ y ∈ r, rightN y = true → True := fun _ _ _ => trivial
      have hgt : ∀ y ∈ r, x.f1 < y.f0 := by
        have : ∀ (q : List S42) (z : S42), (∀ y ∈ q, y.f0 = y.f1) → ordN (z :: q) = true → ∀ y ∈ q, z.f1 < y.f0 := by
          intro q
          induction q with
          | nil => intro z _ _ y hy; simp at hy
          | cons u v ih =>
            intro z hq hz y hy
            rw [ord_step, Bool.and_eq_true] at hz
            have hu := of_decide_eq_true hz.1
            rcases List.mem_cons.1 hy with e | hm
            · rw [e]; exact hu
            · have := ih u (fun y hy => hq y (List.mem_cons_of_mem _ hy)) hz.2 y hm
              have := hq u List.mem_cons_self
              omega
        exact this r x (fun y hy => (h y (List.mem_cons_of_mem _ hy)).1) ho
      by_cases ha : x.f0 = a
      · have e1 : linN (x :: r) a = x.f2 := by
          unfold linN
          rw [if_pos (by omega), ha, show a - a = 0 by omega, Int.mul_zero, Int.add_zero]
        have e2 : (List.range m).map (fun i : Nat => linN (x :: r) (a + 1 + (i : Int))) = (List.range m).map (fun i : Nat => linN r (a + 1 + (i : Int))) := by
          apply List.map_congr_left
          intro i _
          conv => lhs; unfold linN
          rw [if_neg (by omega)]
        rw [e1, e2, if_neg h2, spans_same m (a + 1) r (fun y hy => by
          obtain ⟨g1, g2, g3, g4, g5⟩ := h y (List.mem_cons_of_mem _ hy)
          have := hgt y hy
          exact ⟨g1, g2, g3, by omega, by omega⟩) (ord_cons ho)]
        congr 1
        obtain ⟨x0, x1, x2, x3⟩ := x
        simp only at ha h1 h3
        rw [← h1, ha, h3]
      · have e1 : linN (x :: r) a = 0 := by
          refine lin_none _ a (fun y hy => ?_)
          rcases List.mem_cons.1 hy with e | hm
          · rw [e]; omega
          · have := hgt y hm; omega
        rw [e1, if_pos rfl]
        refine spans_same m (a + 1) (x :: r) (fun y hy => ?_) ho
        obtain ⟨g1, g2, g3, g4, g5⟩ := h y hy
        refine ⟨g1, g2, g3, ?_, by omega⟩
        rcases List.mem_cons.1 hy with e | hm
        · rw [e]; omega
        · have := hgt y hm; omega
theorem get_spans {s : ByteArray} (h : (getC s).2 = 0) : ∃ (a : Int) (L : List Int), (getC s).1 = spansN a L ∧ 0 ≤ a ∧ a + L.length ≤ 65536 ∧ (∀ g ∈ L, 0 ≤ g ∧ g ≤ 65535) ∧ (L.length ≤ 256 ∨ 2 * L.length ≤ s.size) := by
  have n4 : ¬ (4 : Int) = 0 := by decide
  have n5 : ¬ (5 : Int) = 0 := by decide
  unfold getC at h ⊢
  by_cases h1 : s.size < 4
  · rw [if_pos h1] at h; exact absurd h n4
  rw [if_neg h1] at h ⊢
  by_cases h2 : w2 s 0 = 0
  · rw [if_pos h2] at h ⊢
    by_cases h3 : w2 s 2 = 262
    · rw [if_pos h3] at h ⊢
      by_cases h4 : 262 ≤ s.size
      · rw [if_pos h4]
        refine ⟨0, _, rfl, by decide, by simp, fun g hg => ?_, .inl (by simp)⟩
        obtain ⟨i, _, rfl⟩ := List.mem_map.1 hg
        have := w1_bd s (6 + i)
        omega
      · rw [if_neg h4] at h; exact absurd h n4
    · rw [if_neg h3] at h; exact absurd h n5
  rw [if_neg h2] at h ⊢
  by_cases h3 : w2 s 0 = 6
  · rw [if_pos h3] at h ⊢
    by_cases h4 : s.size < 10
    · rw [if_pos h4] at h; exact absurd h n4
    rw [if_neg h4] at h ⊢
    by_cases h5 : w2 s 2 = 10 + 2 * w2 s 8
    · rw [if_pos h5] at h ⊢
      by_cases h6 : (s.size : Int) < w2 s 2
      · rw [if_pos h6] at h; exact absurd h n4
      rw [if_neg h6] at h ⊢
      by_cases h7 : w2 s 6 + w2 s 8 > 65536
      · rw [if_pos h7] at h; exact absurd h n5
      rw [if_neg h7]
      have b6 := w2_bd s 6
      have b8 := w2_bd s 8
      refine ⟨w2 s 6, _, rfl, b6.1, by simp; omega, fun g hg => ?_, .inr (by simp; omega)⟩
      obtain ⟨i, _, rfl⟩ := List.mem_map.1 hg
      exact w2_bd s _
    · rw [if_neg h5] at h; exact absurd h n5
  · rw [if_neg h3] at h; exact absurd h n5
theorem get_none {s : ByteArray} (h : (getC s).2 ≠ 0) : (getC s).1 = [] := by
  unfold getC at h ⊢
  by_cases h1 : s.size < 4
  · rw [if_pos h1]
  rw [if_neg h1] at h ⊢
  by_cases h2 : w2 s 0 = 0
  · rw [if_pos h2] at h ⊢
    by_cases h3 : w2 s 2 = 262
    · rw [if_pos h3] at h ⊢
      by_cases h4 : 262 ≤ s.size
      · rw [if_pos h4] at h; exact absurd rfl h
      · rw [if_neg h4]
    · rw [if_neg h3]
  rw [if_neg h2] at h ⊢
  by_cases h3 : w2 s 0 = 6
  · rw [if_pos h3] at h ⊢
    by_cases h4 : s.size < 10
    · rw [if_pos h4]
    rw [if_neg h4] at h ⊢
    by_cases h5 : w2 s 2 = 10 + 2 * w2 s 8
    · rw [if_pos h5] at h ⊢
      by_cases h6 : (s.size : Int) < w2 s 2
      · rw [if_pos h6]
      rw [if_neg h6] at h ⊢
      by_cases h7 : w2 s 6 + w2 s 8 > 65536
      · rw [if_pos h7]
      · rw [if_neg h7] at h; exact absurd rfl h
    · rw [if_neg h5]
  · rw [if_neg h3]
end Go.Proofs.Ytgifenlfklbdgaa.P
end
section
namespace Go.Proofs.Ytgifenlfklbdgaa.P
open Go.RowKit Go.Proofs.YtgifenlfklbdgaaW.PrintWords Go.Proofs.YtgifenlfklbdgaaW.PrintLast Go.Proofs.YtgifenlfklbdgaaW.PrintMore
set_option linter.unusedSimpArgs false
set_option linter.unusedVariables false
def L0 : List S42 := [⟨65, 66, 3, 1⟩, ⟨68, 68, 7, 0⟩]
def L1 : List S42 := [⟨65, 65, 3, 1⟩, ⟨66, 66, 4, 1⟩, ⟨68, 68, 7, 1⟩]
theorem l0_small : smallN L0 = (⟨(smallB L0).toArray⟩, 0) := by
  unfold smallN
  rw [if_neg (by decide +kernel), if_neg (by decide +kernel), if_pos (by decide +kernel)]
theorem l0_get : getC (smallN L0).1 = (spansN 0 ((List.range 256).map (fun c : Nat => lookN L0 (c : Int))), 0) := by
  rw [l0_small]
  exact small_get (by decide +kernel) (by decide +kernel)
theorem same_k (a b : List S42) (k : Nat) (hk : 20 ≤ k) (h : vinculumref08_Same.f 20 a b = some true) : vinculumref08_Same.f k a b = some true :=
  at_rounds (g := fun k => vinculumref08_Same.f k a b) (fun k => vinculumref08_Same.mono a b k) hk h
theorem charted_told (k : Nat) (hk : 66000 ≤ k) : vinculumlaw08_charted.f k = some true := by
  have s1 : vinculumref08_Same.f k (getC (trimN L0).1).1 L1 = some true := same_k _ _ k (by omega) (by decide +kernel)
  have s2 : vinculumref08_Same.f k (spansN 0 ((List.range 256).map (fun c : Nat => lookN L0 (c : Int)))) L1 = some true := same_k _ _ k (by omega) (by decide +kernel)
  have t1 : (trimN L0).2 = 0 := by decide +kernel
  have t2 : (trimN L0).1.toList = [0, 6, 0, 18, 0, 0, 0, 65, 0, 4, 0, 3, 0, 4, 0, 0, 0, 7] := by decide +kernel
  have t3 : (getC (trimN L0).1).2 = 0 := by decide +kernel
  have t4 : (smallN L0).2 = 0 := by rw [l0_small]
  have t5 : ((smallN L0).1.size : Int) = 262 := by rw [l0_small, ba_size, smallB_length]; rfl
  have t6 : (getC (⟨#[0, 4, 0, 0]⟩ : ByteArray)).2 = 5 := by decide +kernel
  have t7 : chart_Look.f L0 66 = some 4 := by decide +kernel
  have t8 : chart_Look.f L0 67 = some 0 := by decide +kernel
  have t9 : chart_Is.f L0 = some true := by decide +kernel
  have t10 : chart_Is.f [(⟨1, 0, 0, 0⟩ : S42)] = some false := by decide +kernel
  have t11 : chart_PutTrimmed.f L0 = some (trimN L0) := rfl
  have t12 : chart_PutSmall.f L0 = some (smallN L0) := rfl
  unfold vinculumlaw08_charted.f
  rw [Option.bind_some]
  show (chart_PutTrimmed.f L0).bind _ = _
  rw [t11, Option.bind_some, get_told _ k hk, Option.bind_some]
  show (chart_PutSmall.f L0).bind _ = _
  rw [t12, Option.bind_some, get_told _ k hk, Option.bind_some, get_told _ k hk, Option.bind_some, Option.bind_some]
  rw [if_pos t1, if_pos t2, if_pos (by rw [t3, t1])]
  show (vinculumref08_Same.f k _ L1).bind _ = _
  rw [s1, Option.bind_some, if_pos rfl, if_pos (by rw [t4, t1]), if_pos t5, l0_get, if_pos t1.symm]
  show (vinculumref08_Same.f k _ L1).bind _ = _
  rw [s2, Option.bind_some, if_pos rfl, if_pos t6]
  show (chart_Look.f L0 66).bind _ = _
  rw [t7, Option.bind_some, if_pos rfl]
  show (chart_Look.f L0 67).bind _ = _
  rw [t8, Option.bind_some, if_pos rfl]
  show (chart_Is.f L0).bind _ = _
  rw [t9, Option.bind_some, if_pos rfl, t10, Option.bind_some]
  rfl
theorem same_self8 (l : List S42) (h : l.length ≤ 140000) (k : Nat) (hk : l.length < k) : vinculumref08_Same.f k l l = some true := by
  unfold vinculumref08_Same.f
  rw [if_pos rfl]
  have hs : ∀ (d : Nat), ∀ k i, l.length - i = d → i ≤ l.length → d < k → vinculumref08_Same.l0 k l l (i : Int) = some true := by
    intro d
    induction d with
    | zero =>
      intro k i hd hi hk
      obtain ⟨k, rfl⟩ : ∃ n, k = n + 1 := ⟨k - 1, by omega⟩
      simp only [vinculumref08_Same.l0]
      rw [if_neg (by omega)]
    | succ d ih =>
      intro k i hd hi hk
      obtain ⟨k, rfl⟩ : ∃ n, k = n + 1 := ⟨k - 1, by omega⟩
      have hw : wrap64 ((i : Int) + 1) = ((i + 1 : Nat) : Int) := by unfold wrap64; omega
      have := ih k (i + 1) (by omega) (by omega) (by omega)
      simp only [vinculumref08_Same.l0]
      rw [if_pos (by omega), if_pos (by omega), if_pos (by omega), hw, if_neg (by simp)]
      exact this
  exact hs l.length k 0 (by omega) (by omega) hk
end Go.Proofs.Ytgifenlfklbdgaa.P
end
section
namespace Go.Proofs.Ytgifenlfklbdgaa.Pure
open Go.RowKit Go.Proofs.Ytgifenlfklbdgaa.P Go.Proofs.YtgifenlfklbdgaaW.PrintWords Go.Proofs.YtgifenlfklbdgaaW.PrintLast
set_option linter.unusedSimpArgs false
set_option linter.unusedVariables false
theorem last_mem : ∀ (l : List S42) (a : Int), (∀ y ∈ l, hasN y = true) → l ≠ [] → ∃ y ∈ l, lastN a l = y.f1
  | [], a, _, h => absurd rfl h
  | [x], a, h, _ => ⟨x, List.mem_cons_self, by rw [last_step, h x List.mem_cons_self, if_pos rfl]; rfl⟩
  | x :: y :: r, a, h, _ => by
    obtain ⟨z, hz, h2⟩ := last_mem (y :: r) (if hasN x = true then x.f1 else a) (fun q hq => h q (List.mem_cons_of_mem _ hq)) (by simp)
    exact ⟨z, List.mem_cons_of_mem _ hz, by rw [last_step]; exact h2⟩
theorem spans_again (a : Int) (L : List Int) (ha : 0 ≤ a) (hL : a + L.length ≤ 65536) (hg : ∀ g ∈ L, 0 ≤ g ∧ g ≤ 65535) (hm : L.length ≤ 32762) : isL (spansN a L) = true ∧ (trimN (spansN a L)).2 = 0 ∧ getC (trimN (spansN a L)).1 = (spansN a L, 0) ∧ (trimN (spansN a L)).1.size ≤ 131082 := by
  have hi := spans_isL ha hL hg
  obtain ⟨_, h1, h2⟩ := isL_all hi
  have hmem := spans_mem L a
  obtain ⟨l, hl⟩ : ∃ l, l = spansN a L := ⟨_, rfl⟩
  rw [← hl] at hi h1 h2 hmem ⊢
  refine ⟨hi, ?_⟩
  have hhas : ∀ x ∈ l, hasN x = true := fun x hx => by
    obtain ⟨q1, q2, q3, q4, q5, q6⟩ := hmem x hx
    have := (hg _ q6).1
    rw [has_iff (h1 x hx)]
    exact .inl (by omega)
  unfold trimN
  rw [hi, if_neg (show ¬ true = false by decide)]
  cases l with
  | nil =>
    have ht := trim_get hi (a := 0) (m := 0) (by decide) (by decide) (by decide) (by decide) []
    rw [List.append_nil] at ht
    have ht' : getC ⟨(headT 0 0 ++ glyphsT [] 0 0).toArray⟩ = (spansN 0 [], 0) := ht
    have he : endsN ([] : List S42) = (0, 0, false) := rfl
    rw [he]
    have hm0 : manyT 0 0 false = 0 := rfl
    simp only
    rw [hm0, if_neg (show ¬ ((65535 : Int) < 0 ∨ (32762 : Int) < 0) by decide)]
    have e0 : (0 : Int).toNat = 0 := rfl
    simp only
    rw [e0, ht']
    refine ⟨trivial, rfl, ?_⟩
    rw [ba_size, List.length_append, headT_length, glyphsT_length]
    decide
  | cons x r =>
    obtain ⟨q1, q2, q3, q4, q5, q6⟩ := hmem x List.mem_cons_self
    have hx := hhas x List.mem_cons_self
    have hf : fstAt x = x.f0 := by rw [fst_val (h1 x List.mem_cons_self), if_neg q4]
    obtain ⟨y, hy, hlast⟩ := last_mem (x :: r) (fstAt x) hhas (by simp)
    obtain ⟨p1, p2, p3, p4, p5, p6⟩ := hmem y hy
    have he : endsN (x :: r) = (x.f0, y.f1, true) := by
      unfold endsN
      rw [hx, if_pos rfl, hlast, hf]
    have hge := ends_hold (x :: r) h1 h2
    have hxy : x.f0 ≤ y.f1 := by
      have := (hge y hy (hhas y hy)).2.1
      rw [he] at this
      have hf2 : fstAt y = y.f0 := by rw [fst_val (h1 y hy), if_neg p4]
      rw [hf2] at this
      simp only at this
      omega
    rw [he]
    have hmt : manyT x.f0 y.f1 true = y.f1 - x.f0 + 1 := by unfold manyT; rw [if_pos rfl]
    simp only
    rw [hmt, if_neg (by omega)]
    simp only
    obtain ⟨m, hmm⟩ := Int.eq_ofNat_of_zero_le (show 0 ≤ y.f1 - x.f0 + 1 by omega)
    rw [hmm, Int.toNat_natCast]
    have ht := trim_get hi (a := x.f0) (m := m) (by omega) (by omega) (by omega) (by omega) []
    rw [List.append_nil] at ht
    have hsame := spans_same m x.f0 (x :: r) (fun z hz => by
      obtain ⟨u1, u2, u3, u4, u5, u6⟩ := hmem z hz
      have hh := hge z hz (hhas z hz)
      rw [he] at hh
      have hfz : fstAt z = z.f0 := by rw [fst_val (h1 z hz), if_neg u4]
      rw [hfz] at hh
      simp only at hh
      exact ⟨u1, u4, u5, hh.2.1, by omega⟩) h2
    have hll : (List.range m).map (fun i : Nat => lookN (x :: r) (x.f0 + (i : Int))) = (List.range m).map (fun i : Nat => linN (x :: r) (x.f0 + (i : Int))) := List.map_congr_left (fun i _ => look_lin h1 h2 _)
    rw [ht, hll, hsame]
    refine ⟨trivial, rfl, ?_⟩
    rw [ba_size, List.length_append, headT_length, glyphsT_length]
    omega
theorem only_end (l : List S42) (h1 : isL l = true) (h2 : (trimN l).2 = 0) (h3 : getC (trimN l).1 = (l, 0)) (h4 : (trimN l).1.size ≤ 131082) (k : Nat) (hk : 200000 ≤ k) : vinculumlaw08_ChartOnly.l0 k l (l.length : Int) = some true := by
  obtain ⟨k, rfl⟩ : ∃ n, k = n + 1 := ⟨k - 1, by omega⟩
  have hl := (isL_all h1).1
  simp only [vinculumlaw08_ChartOnly.l0]
  rw [if_neg (by omega)]
  unfold chart_PutTrimmed.f chart_Is.f
  rw [Option.bind_some, get_told _ k (by omega), Option.bind_some, h3, charted_told k (by omega), Option.bind_some, if_pos rfl, Option.bind_some, h1, if_pos rfl, if_pos h2, if_pos rfl, same_self8 l (by omega) k (by omega), Option.bind_some, if_pos rfl, Option.some.injEq]
  exact decide_eq_true (by omega)
theorem only_loop (l : List S42) (hs : ∀ x ∈ l, x.f0 = x.f1 ∧ x.f2 ≠ 0 ∧ x.f3 = 1) (h1 : isL l = true) (h2 : (trimN l).2 = 0) (h3 : getC (trimN l).1 = (l, 0)) (h4 : (trimN l).1.size ≤ 131082) (d : Nat) : ∀ k i, l.length - i = d → i ≤ l.length → 200000 + d ≤ k → vinculumlaw08_ChartOnly.l0 k l (i : Int) = some true := by
  have hl := (isL_all h1).1
  induction d with
  | zero =>
    intro k i hd hi hk
    have : i = l.length := by omega
    subst this
    exact only_end l h1 h2 h3 h4 k (by omega)
  | succ d ih =>
    intro k i hd hi hk
    obtain ⟨k, rfl⟩ : ∃ n, k = n + 1 := ⟨k - 1, by omega⟩
    have hlt : i < l.length := by omega
    have hw : wrap64 ((i : Int) + 1) = ((i + 1 : Nat) : Int) := by unfold wrap64; omega
    obtain ⟨q1, q2, q3⟩ := hs _ (List.getElem_mem hlt)
    simp only [vinculumlaw08_ChartOnly.l0]
    rw [if_pos (by omega), if_pos (by omega), rd_get l i hlt, if_pos q1, if_neg q2, if_pos q3, hw]
    exact ih k (i + 1) (by omega) (by omega) (by omega)
theorem only_told (s : ByteArray) (K : Nat) (hK : 300000 ≤ K) : vinculumlaw08_ChartOnly.f K s = some true := by
  unfold vinculumlaw08_ChartOnly.f
  by_cases h0 : (s.size : Int) > 3000
  · rw [if_pos h0]
  rw [if_neg h0, get_told s K (by omega), Option.bind_some]
  by_cases h : (getC s).2 = 0
  · obtain ⟨a, L, h1, h2, h3, h4, h5⟩ := get_spans h
    obtain ⟨g1, g2, g3, g4⟩ := spans_again a L h2 h3 h4 (by omega)
    have hm := spans_mem L a
    rw [if_pos h, h1]
    have hlen := (isL_all g1).1
    exact only_loop (spansN a L) (fun x hx => ⟨(hm x hx).1, (hm x hx).2.2.2.1, (hm x hx).2.2.2.2.1⟩) g1 g2 g3 g4 (spansN a L).length K 0 rfl (by omega) (by omega)
  · rw [if_neg h, charted_told K (by omega), Option.bind_some, if_pos rfl, get_none h]
    rfl
theorem ChartOnly : vinculumlaw08_ChartOnly.Pure := fun s _ => ⟨300000, only_told s 300000 (Nat.le_refl _)⟩
end Go.Proofs.Ytgifenlfklbdgaa.Pure
end
