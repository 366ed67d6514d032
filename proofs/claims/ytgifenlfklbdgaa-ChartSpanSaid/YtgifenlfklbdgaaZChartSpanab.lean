/- A part of the proof of the law ChartSpan: the words, contracts and plain facts that it needs, no more. Each says its own condition. -/
import Derived.Test.YtgifenlfklbdgaaZChartSpanv
import Derived.Test.YtgifenlfklbdgaaZChartSpany
import Derived.Test.YtgifenlfklbdgaaZChartSpanaa
import Derived.Test.YtgifenlfklbdgaaZChartSpanq
import Derived.Test.YtgifenlfklbdgaaZChartSpanp
import Derived.Test.YtgifenlfklbdgaaZChartSpang
import Derived.Test.YtgifenlfklbdgaaZChartSpanr
import Derived.Test.YtgifenlfklbdgaaZChartSpanz
section
namespace Go.Proofs.Ytgifenlfklbdgaa.P
open Go.RowKit Go.Proofs.YtgifenlfklbdgaaW.PrintWords Go.Proofs.YtgifenlfklbdgaaW.PrintLast Go.Proofs.YtgifenlfklbdgaaW.PrintMore
set_option linter.unusedSimpArgs false
set_option linter.unusedVariables false
def glyphOf (l : List S42) (c : Int) : Int := if isL l = true then lookN l c else 0
theorem look_told (l : List S42) (c : Int) : chart_Look.f l c = some (glyphOf l c) := by
  unfold chart_Look.f chart_Is.f glyphOf
  rw [Option.bind_some]
  cases h : isL l with
  | false => rw [if_neg Bool.false_ne_true, if_neg Bool.false_ne_true]
  | true =>
    rw [if_pos rfl, if_pos rfl]
    unfold chart_look.f
    rw [if_pos (isL_all h).1]
    rfl
end Go.Proofs.Ytgifenlfklbdgaa.P
end
section
namespace Go.Proofs.Ytgifenlfklbdgaa.P
open Go.RowKit Go.Proofs.YtgifenlfklbdgaaW.PrintWords Go.Proofs.YtgifenlfklbdgaaW.PrintLast Go.Proofs.YtgifenlfklbdgaaW.PrintMore
set_option linter.unusedSimpArgs false
set_option linter.unusedVariables false
def w2 (s : ByteArray) (p : Nat) : Int := takeN (s.extract p s.size) 2
def w1 (s : ByteArray) (p : Nat) : Int := takeN (s.extract p s.size) 1
theorem w2_bd (s : ByteArray) (p : Nat) : 0 ≤ w2 s p ∧ w2 s p ≤ 65535 := by
  unfold w2 takeN
  rw [if_neg (by rintro ⟨h, _⟩; exact absurd h (by decide))]
  have := numAt_bd (s.extract p s.size) 2
  have e4 : (256 : Int) ^ 2 = 65536 := by decide
  rw [e4] at this
  have e : (2 : Int).natAbs = 2 := rfl
  rw [e]; omega
theorem w1_bt (s : ByteArray) (p : Nat) (h : p < s.size) : w1 s p = bt s (p : Int) := by
  unfold w1 takeN
  rw [if_neg (by rintro ⟨h, _⟩; exact absurd h (by decide))]
  have e : (1 : Int).natAbs = 1 := rfl
  rw [e]
  have hb := bt_range s (p : Int)
  simp only [numAt]
  unfold bt
  have h1 : ((0 : Nat) : Int).toNat < (s.extract p s.size).size := by simp; omega
  have h2 : ((p : Nat) : Int).toNat < s.size := by simp; omega
  first
    | (rw [dif_pos h1, dif_pos h2]; simp [ByteArray.getElem_extract])
    | (simp [h1, h2, ByteArray.getElem_extract, h])
theorem get_two (s : ByteArray) (p : Nat) : getN s (p : Int) [2, 2] = if p + 4 ≤ s.size then ([w2 s p, w2 s (p + 2)], 0) else ([], 4) := by
  have h := get_rep s (s := 2) (by decide) p 2
  have e : repN [2] 2 = [2, 2] := rfl
  have e2 : (2 : Int).natAbs = 2 := rfl
  rw [e, e2] at h
  refine Eq.trans h ?_
  by_cases hc : p + 4 ≤ s.size
  · rw [if_pos hc, if_pos (by omega), show List.range 2 = [0, 1] from by decide]
    rfl
  · rw [if_neg hc, if_neg (by omega)]
def spansN (a : Int) : List Int → List S42
  | [] => []
  | g :: r => if g = 0 then spansN (a + 1) r else ⟨a, a, g, 1⟩ :: spansN (a + 1) r
theorem spans_len (a : Int) : ∀ (L : List Int), ∀ b, (spansN b L).length ≤ L.length
  | [], b => Nat.le_refl _
  | g :: r, b => by
    unfold spansN
    have := spans_len a r (b + 1)
    by_cases h : g = 0
    · rw [if_pos h, List.length_cons]; omega
    · rw [if_neg h, List.length_cons, List.length_cons]; omega
theorem spans_snoc (g : Int) : ∀ (L : List Int) (a : Int), spansN a (L ++ [g]) = spansN a L ++ (if g = 0 then [] else [⟨a + L.length, a + L.length, g, 1⟩])
  | [], a => by
    unfold spansN
    simp [spansN]
  | x :: r, a => by
    rw [List.cons_append]
    unfold spansN
    rw [spans_snoc g r (a + 1)]
    have e : a + 1 + (r.length : Int) = a + ((x :: r).length : Int) := by rw [List.length_cons]; omega
    rw [e]
    by_cases h : x = 0
    · rw [if_pos h, if_pos h]
    · rw [if_neg h, if_neg h, List.cons_append]
theorem spans_loop (L : List Int) (a : Int) (ha : 0 ≤ a) (hL : L.length ≤ 131072) (ha2 : a ≤ 131072) (d : Nat) : ∀ k i, L.length - i = d → i ≤ L.length → d + 1 ≤ k → chart_spans.l0 k a (spansN a (L.take i)) L (L.length : Int) (i : Int) = some (spansN a L) := by
  induction d with
  | zero =>
    intro k i hd hi hk
    obtain ⟨k, rfl⟩ : ∃ n, k = n + 1 := ⟨k - 1, by omega⟩
    have : i = L.length := by omega
    subst this
    simp only [chart_spans.l0]
    rw [if_neg (by omega), List.take_length]
  | succ d ih =>
    intro k i hd hi hk
    obtain ⟨k, rfl⟩ : ∃ n, k = n + 1 := ⟨k - 1, by omega⟩
    have hlt : i < L.length := by omega
    have hw : wrap64 ((i : Int) + 1) = ((i + 1 : Nat) : Int) := by unfold wrap64; omega
    have hw1 : wrap64 (a + (i : Int)) = a + (i : Int) := by unfold wrap64; omega
    have hr : rd L (i : Int) = L[i] := by unfold rd; simp [List.getD_eq_getElem?_getD, List.getElem?_eq_getElem hlt]
    have ht : L.take (i + 1) = L.take i ++ [L[i]] := by rw [List.take_add_one, List.getElem?_eq_getElem hlt]; rfl
    have hs := spans_snoc L[i] (L.take i) a
    rw [← ht] at hs
    have hli : (L.take i).length = i := by rw [List.length_take]; omega
    rw [hli] at hs
    have ih' := ih k (i + 1) (by omega) (by omega) (by omega)
    rw [hs] at ih'
    have hsl := spans_len a (L.take i) a
    simp only [chart_spans.l0]
    rw [if_pos (by omega), if_pos (by omega), if_pos (by omega), hr, hw, hw1]
    by_cases hg : L[i] = 0
    · rw [if_pos hg]
      rw [if_pos hg, List.append_nil] at ih'
      exact ih'
    · rw [if_neg hg, if_pos (by omega)]
      rw [if_neg hg] at ih'
      exact ih'
theorem spans_told (L : List Int) (a : Int) (ha : 0 ≤ a) (hL : L.length ≤ 131072) (ha2 : a ≤ 131072) (k : Nat) (hk : L.length + 1 ≤ k) : chart_spans.f k a L = some (spansN a L) := by
  have := spans_loop L a ha hL ha2 L.length k 0 rfl (by omega) hk
  rwa [List.take_zero] at this
def getC (s : ByteArray) : List S42 × Int :=
  if s.size < 4 then ([], 4)
  else if w2 s 0 = 0 then (if w2 s 2 = 262 then (if 262 ≤ s.size then (spansN 0 ((List.range 256).map (fun i => w1 s (6 + i))), 0) else ([], 4)) else ([], 5))
  else if w2 s 0 = 6 then (if s.size < 10 then ([], 4) else if w2 s 2 = 10 + 2 * w2 s 8 then (if (s.size : Int) < w2 s 2 then ([], 4) else if w2 s 6 + w2 s 8 > 65536 then ([], 5) else (spansN (w2 s 6) ((List.range (w2 s 8).toNat).map (fun i => w2 s (10 + 2 * i))), 0)) else ([], 5))
  else ([], 5)
theorem rep_told {z : Int} (n : Nat) (h : n ≤ 131072) : slices_Repeat_int_int.f [z] (n : Int) = some (repN [z] n) := by
  unfold slices_Repeat_int_int.f slices_Repeat.f
  rw [if_pos (by refine ⟨by omega, by omega, Nat.lt_of_lt_of_le (by decide : (1 : Nat) < 2) (by decide), ?_⟩; show 1 * ((n : Int)).toNat ≤ _; omega)]
  rfl
theorem rep_one (z : Int) (k : Nat) : (repN [z] k).length = k := by rw [repN_length]; exact Nat.one_mul _
theorem getSmall_told (s : ByteArray) (n : Int) (k : Nat) (hk : 300 ≤ k) : chart_getSmall.f k s n = some (if n = 262 then (if 262 ≤ s.size then (spansN 0 ((List.range 256).map (fun i => w1 s (6 + i))), 0) else ([], 4)) else ([], 5)) := by
  unfold chart_getSmall.f
  by_cases hn : n = 262
  · have hr := rep_told (z := 1) 256 (by decide)
    have hr' : slices_Repeat_int_int.f [1] 256 = some (repN [1] 256) := hr
    have hg := get_rep s (s := 1) (by decide) 6 256
    have e2 : (1 : Int).natAbs = 1 := rfl
    rw [e2] at hg
    have hg' : getN s 6 (repN [1] 256) = if 6 + 1 * 256 ≤ s.size then ((List.range 256).map (fun i => takeN (s.extract (6 + 1 * i) s.size) 1), 0) else ([], 4) := hg
    rw [if_pos hn, if_pos hn, hr', Option.bind_some]
    unfold bin_Get.f
    rw [if_pos (by rw [rep_one]; decide), hg', Option.bind_some]
    by_cases hs : 262 ≤ s.size
    · rw [if_pos (show 6 + 1 * 256 ≤ s.size by omega), if_pos hs]
      simp only [Nat.one_mul]
      rw [spans_told _ 0 (by decide) (by simp) (by decide) k (by simp; omega)]
      rfl
    · rw [if_neg (show ¬ 6 + 1 * 256 ≤ s.size by omega), if_neg hs]
      simp only
      rw [spans_told [] 0 (by decide) (by simp) (by decide) k (by simp; omega)]
      rfl
  · rw [if_neg hn, if_neg hn]
theorem getTrimmed_told (s : ByteArray) (n : Int) (k : Nat) (hk : 66000 ≤ k) : chart_getTrimmed.f k s n = some (if s.size < 10 then ([], 4) else if n = 10 + 2 * w2 s 8 then (if (s.size : Int) < n then ([], 4) else if w2 s 6 + w2 s 8 > 65536 then ([], 5) else (spansN (w2 s 6) ((List.range (w2 s 8).toNat).map (fun i => w2 s (10 + 2 * i))), 0)) else ([], 5)) := by
  unfold chart_getTrimmed.f
  have hg := get_two s 6
  have hg' : getN s 6 [2, 2] = if 6 + 4 ≤ s.size then ([w2 s 6, w2 s (6 + 2)], 0) else ([], 4) := hg
  have hb : bin_Get.f s 6 [2, 2] = some (getN s 6 [2, 2]) := by unfold bin_Get.f; rw [if_pos (by decide)]
  rw [hb, Option.bind_some, hg']
  by_cases hs : s.size < 10
  · rw [if_pos hs, if_neg (show ¬ 6 + 4 ≤ s.size by omega)]
    simp only
    rw [if_neg (show ¬ (4 : Int) = 0 by decide)]
  · rw [if_neg hs, if_pos (show 6 + 4 ≤ s.size by omega)]
    have b6 := w2_bd s 6
    have b8 := w2_bd s 8
    have r0 : rd [w2 s 6, w2 s (6 + 2)] 0 = w2 s 6 := rfl
    have r1 : rd [w2 s 6, w2 s (6 + 2)] 1 = w2 s 8 := rfl
    have hl : (([w2 s 6, w2 s (6 + 2)] : List Int).length : Int) = 2 := rfl
    have x1 : wrap64 (2 * w2 s 8) = 2 * w2 s 8 := by unfold wrap64; omega
    have x2 : wrap64 (10 + 2 * w2 s 8) = 10 + 2 * w2 s 8 := by unfold wrap64; omega
    have x3 : wrap64 (w2 s 6 + w2 s 8) = w2 s 6 + w2 s 8 := by unfold wrap64; omega
    simp only
    rw [r0, r1, hl, x1, x2, x3, if_pos trivial, if_pos (show (1 : Int) < 2 by decide), if_pos (show (0 : Int) < 2 by decide)]
    by_cases hn : n = 10 + 2 * w2 s 8
    · rw [if_pos hn, if_pos hn]
      by_cases h2 : (s.size : Int) < n
      · rw [if_pos h2, if_pos h2]
      · rw [if_neg h2, if_neg h2]
        by_cases h3 : w2 s 6 + w2 s 8 > 65536
        · rw [if_pos h3, if_pos h3]
        · rw [if_neg h3, if_neg h3]
          obtain ⟨m, hm⟩ := Int.eq_ofNat_of_zero_le b8.1
          have hr := rep_told (z := 2) m (by omega)
          have hgr := get_rep s (s := 2) (by decide) 10 m
          have e2 : (2 : Int).natAbs = 2 := rfl
          rw [e2] at hgr
          have hgr' : getN s 10 (repN [2] m) = if 10 + 2 * m ≤ s.size then ((List.range m).map (fun i => takeN (s.extract (10 + 2 * i) s.size) 2), 0) else ([], 4) := hgr
          rw [hm, hr, Option.bind_some, Int.toNat_natCast]
          unfold bin_Get.f
          rw [if_pos (by rw [rep_one]; omega), hgr', Option.bind_some, if_pos (show 10 + 2 * m ≤ s.size by omega)]
          simp only
          rw [spans_told _ (w2 s 6) b6.1 (by simp; omega) (by omega) k (by simp; omega)]
          rfl
    · rw [if_neg hn, if_neg hn]
theorem get_told (s : ByteArray) (k : Nat) (hk : 66000 ≤ k) : chart_Get.f k s = some (getC s) := by
  unfold chart_Get.f getC
  have hg := get_two s 0
  have hg' : getN s 0 [2, 2] = if 0 + 4 ≤ s.size then ([w2 s 0, w2 s (0 + 2)], 0) else ([], 4) := hg
  have hb : bin_Get.f s 0 [2, 2] = some (getN s 0 [2, 2]) := by unfold bin_Get.f; rw [if_pos (by decide)]
  rw [hb, Option.bind_some, hg']
  by_cases hs : s.size < 4
  · rw [if_pos hs, if_neg (show ¬ 0 + 4 ≤ s.size by omega)]
    simp only
    rw [if_neg (show ¬ (4 : Int) = 0 by decide)]
  · rw [if_neg hs, if_pos (show 0 + 4 ≤ s.size by omega)]
    have r0 : rd [w2 s 0, w2 s (0 + 2)] 0 = w2 s 0 := rfl
    have r1 : rd [w2 s 0, w2 s (0 + 2)] 1 = w2 s 2 := rfl
    have hl : (([w2 s 0, w2 s (0 + 2)] : List Int).length : Int) = 2 := rfl
    simp only
    rw [r0, r1, hl, if_pos trivial, if_pos (show (0 : Int) < 2 by decide), if_pos (show (1 : Int) < 2 by decide), getSmall_told s _ k (by omega), getTrimmed_told s _ k hk]
    simp only [Option.bind_some]
    by_cases h0 : w2 s 0 = 0
    · rw [if_pos h0, if_pos h0]
    · rw [if_neg h0, if_neg h0]
      by_cases h6 : w2 s 0 = 6
      · rw [if_pos h6, if_pos h6, if_pos (show (1 : Int) < 2 by decide)]
      · rw [if_neg h6, if_neg h6]
end Go.Proofs.Ytgifenlfklbdgaa.P
end
section
namespace Go.Proofs.Ytgifenlfklbdgaa.P
open Go.RowKit Go.Proofs.YtgifenlfklbdgaaW.PrintWords Go.Proofs.YtgifenlfklbdgaaW.PrintLast Go.Proofs.YtgifenlfklbdgaaW.PrintMore
set_option linter.unusedSimpArgs false
set_option linter.unusedVariables false
theorem w2_at (pre : List UInt8) (v : Int) (r : List UInt8) (h0 : 0 ≤ v) (h1 : v ≤ 65535) (p : Nat) (hp : pre.length = p) : w2 ⟨(pre ++ (bytesN v 2 ++ r)).toArray⟩ p = v := by
  unfold w2
  rw [← hp, ba_drop]
  exact take_bytes (s := 2) (by decide) (fits2 h0 h1) r
theorem w1_at (pre : List UInt8) (b : UInt8) (r : List UInt8) (p : Nat) (hp : pre.length = p) : w1 ⟨(pre ++ (b :: r)).toArray⟩ p = (b.toNat : Int) := by
  rw [w1_bt _ _ (by rw [ba_size, List.length_append, List.length_cons]; omega), bt_at _ _ (by rw [List.length_append, List.length_cons]; omega)]
  subst hp
  simp
theorem smallB_length (l : List S42) : (smallB l).length = 262 := by unfold smallB; simp
theorem byteG_val {l : List S42} (h : isL l = true) {c : Nat} (hc : lookN l (c : Int) < 256) : ((byteG l c).toNat : Int) = lookN l (c : Int) := by
  have := look_bd h (c : Int)
  unfold byteG
  have e : lookN l (c : Int) % 256 = lookN l (c : Int) := by omega
  rw [e]
  simp
  omega
theorem small_get {l : List S42} (h : isL l = true) (hok : smallOk l = true) : getC ⟨(smallB l).toArray⟩ = (spansN 0 ((List.range 256).map (fun c : Nat => lookN l (c : Int))), 0) := by
  have hsz : (⟨(smallB l).toArray⟩ : ByteArray).size = 262 := by rw [ba_size, smallB_length]
  obtain ⟨R, hR⟩ : ∃ R, R = (List.range 256).map (byteG l) := ⟨_, rfl⟩
  have b0 : bytesN 0 2 = [0, 0] := by decide +kernel
  have b1 : bytesN 262 2 = [1, 6] := by decide +kernel
  have hS : smallB l = [0, 0, 1, 6, 0, 0] ++ R := by rw [hR]; rfl
  have e0 : w2 ⟨(smallB l).toArray⟩ 0 = 0 := by
    have : smallB l = [] ++ (bytesN 0 2 ++ ([1, 6, 0, 0] ++ R)) := by rw [hS, b0]; rfl
    rw [this]; exact w2_at _ _ _ (by decide) (by decide) 0 rfl
  have e2 : w2 ⟨(smallB l).toArray⟩ 2 = 262 := by
    have : smallB l = [0, 0] ++ (bytesN 262 2 ++ ([0, 0] ++ R)) := by rw [hS, b1]; rfl
    rw [this]; exact w2_at _ _ _ (by decide) (by decide) 2 rfl
  clear hS hR R
  have e3 : (List.range 256).map (fun i => w1 ⟨(smallB l).toArray⟩ (6 + i)) = (List.range 256).map (fun c : Nat => lookN l (c : Int)) := by
    apply List.map_congr_left
    intro i hi
    have hi' := List.mem_range.1 hi
    have hlt : lookN l (i : Int) < 256 := of_decide_eq_true (List.all_eq_true.1 hok i hi)
    rw [← byteG_val h hlt]
    have hsplit : (List.range 256).map (byteG l) = ((List.range 256).map (byteG l)).take i ++ (byteG l i :: ((List.range 256).map (byteG l)).drop (i + 1)) := by
      have hl : i < ((List.range 256).map (byteG l)).length := by simpa using hi'
      have hg : ((List.range 256).map (byteG l))[i] = byteG l i := by simp
      rw [← hg, ← List.drop_eq_getElem_cons hl, List.take_append_drop]
    have hB : smallB l = ([0, 0, 1, 6, 0, 0] ++ ((List.range 256).map (byteG l)).take i) ++ (byteG l i :: ((List.range 256).map (byteG l)).drop (i + 1)) := by
      unfold smallB
      conv => lhs; rw [hsplit]
      rw [List.append_assoc]
    rw [hB]
    exact w1_at _ _ _ (6 + i) (by simp; omega)
  unfold getC
  rw [hsz, if_neg (by decide), e0, if_pos rfl, e2, if_pos rfl, if_pos (by decide), e3]
end Go.Proofs.Ytgifenlfklbdgaa.P
end
section
namespace Go.Proofs.Ytgifenlfklbdgaa.P
open Go.RowKit Go.Proofs.YtgifenlfklbdgaaW.PrintWords Go.Proofs.YtgifenlfklbdgaaW.PrintLast Go.Proofs.YtgifenlfklbdgaaW.PrintMore
set_option linter.unusedSimpArgs false
set_option linter.unusedVariables false
def L0 : List S42 := [⟨65, 66, 3, 1⟩, ⟨68, 68, 7, 0⟩]
def L1 : List S42 := [⟨65, 65, 3, 1⟩, ⟨66, 66, 4, 1⟩, ⟨68, 68, 7, 1⟩]
theorem l0_small : smallN L0 = (⟨(smallB L0).toArray⟩, 0) := by
  unfold smallN
  rw [if_neg (by decide +kernel), if_neg (by decide +kernel), if_pos (by decide +kernel)]
theorem l0_get : getC (smallN L0).1 = (spansN 0 ((List.range 256).map (fun c : Nat => lookN L0 (c : Int))), 0) := by
  rw [l0_small]
  exact small_get (by decide +kernel) (by decide +kernel)
theorem same_k (a b : List S42) (k : Nat) (hk : 20 ≤ k) (h : vinculumref08_Same.f 20 a b = some true) : vinculumref08_Same.f k a b = some true :=
  at_rounds (g := fun k => vinculumref08_Same.f k a b) (fun k => vinculumref08_Same.mono a b k) hk h
theorem charted_told (k : Nat) (hk : 66000 ≤ k) : vinculumlaw08_charted.f k = some true := by
  have s1 : vinculumref08_Same.f k (getC (trimN L0).1).1 L1 = some true := same_k _ _ k (by omega) (by decide +kernel)
  have s2 : vinculumref08_Same.f k (spansN 0 ((List.range 256).map (fun c : Nat => lookN L0 (c : Int)))) L1 = some true := same_k _ _ k (by omega) (by decide +kernel)
  have t1 : (trimN L0).2 = 0 := by decide +kernel
  have t2 : (trimN L0).1.toList = [0, 6, 0, 18, 0, 0, 0, 65, 0, 4, 0, 3, 0, 4, 0, 0, 0, 7] := by decide +kernel
  have t3 : (getC (trimN L0).1).2 = 0 := by decide +kernel
  have t4 : (smallN L0).2 = 0 := by rw [l0_small]
  have t5 : ((smallN L0).1.size : Int) = 262 := by rw [l0_small, ba_size, smallB_length]; rfl
  have t6 : (getC (⟨#[0, 4, 0, 0]⟩ : ByteArray)).2 = 5 := by decide +kernel
  have t7 : chart_Look.f L0 66 = some 4 := by decide +kernel
  have t8 : chart_Look.f L0 67 = some 0 := by decide +kernel
  have t9 : chart_Is.f L0 = some true := by decide +kernel
  have t10 : chart_Is.f [(⟨1, 0, 0, 0⟩ : S42)] = some false := by decide +kernel
  have t11 : chart_PutTrimmed.f L0 = some (trimN L0) := rfl
  have t12 : chart_PutSmall.f L0 = some (smallN L0) := rfl
  unfold vinculumlaw08_charted.f
  rw [Option.bind_some]
  show (chart_PutTrimmed.f L0).bind _ = _
  rw [t11, Option.bind_some, get_told _ k hk, Option.bind_some]
  show (chart_PutSmall.f L0).bind _ = _
  rw [t12, Option.bind_some, get_told _ k hk, Option.bind_some, get_told _ k hk, Option.bind_some, Option.bind_some]
  rw [if_pos t1, if_pos t2, if_pos (by rw [t3, t1])]
  show (vinculumref08_Same.f k _ L1).bind _ = _
  rw [s1, Option.bind_some, if_pos rfl, if_pos (by rw [t4, t1]), if_pos t5, l0_get, if_pos t1.symm]
  show (vinculumref08_Same.f k _ L1).bind _ = _
  rw [s2, Option.bind_some, if_pos rfl, if_pos t6]
  show (chart_Look.f L0 66).bind _ = _
  rw [t7, Option.bind_some, if_pos rfl]
  show (chart_Look.f L0 67).bind _ = _
  rw [t8, Option.bind_some, if_pos rfl]
  show (chart_Is.f L0).bind _ = _
  rw [t9, Option.bind_some, if_pos rfl, t10, Option.bind_some]
  rfl
end Go.Proofs.Ytgifenlfklbdgaa.P
end
section
namespace Go.Proofs.Ytgifenlfklbdgaa.Pure
open Go.RowKit Go.Proofs.Ytgifenlfklbdgaa.P Go.Proofs.YtgifenlfklbdgaaW.PrintWords Go.Proofs.YtgifenlfklbdgaaW.PrintLast
set_option linter.unusedSimpArgs false
set_option linter.unusedVariables false
theorem one_glyph (x : S42) (c : Int) (h : isL [x] = true) : glyphOf [x] c = if x.f0 ≤ c ∧ c ≤ x.f1 then x.f2 + x.f3 * (c - x.f0) else 0 := by
  obtain ⟨_, h1, h2⟩ := isL_all h
  unfold glyphOf
  rw [if_pos h, look_lin h1 h2]
  unfold linN
  rfl
theorem span_told (a b g s c : Int) (k : Nat) (hk : 66000 ≤ k) : vinculumlaw08_ChartSpan.f (k + 1) a b g s c = some true := by
  have hc := charted_told k (by omega)
  have hc1 := charted_told (k + 1) (by omega)
  unfold vinculumlaw08_ChartSpan.f
  rw [Option.bind_some]
  unfold chart_Is.f
  rw [Option.bind_some]
  cases h : isL [(⟨a, b, g, s⟩ : S42)] with
  | false =>
    rw [if_neg Bool.false_ne_true, hc1, Option.bind_some, if_pos rfl, look_told, Option.bind_some]
    unfold glyphOf
    rw [h, if_neg Bool.false_ne_true]
    rfl
  | true =>
    have hg := fun c => one_glyph ⟨a, b, g, s⟩ c h
    simp only at hg
    have hx := (isL_all h).2.1 _ List.mem_cons_self
    obtain ⟨a0, a1, a2, a3, a4, a5, a6⟩ := (right_iff _).1 hx
    simp only at a0 a1 a2 a3 a4 a5 a6
    rw [if_pos rfl, look_told, Option.bind_some, hg c]
    by_cases h1 : c < a
    · rw [if_pos h1, if_neg (show ¬ (a ≤ c ∧ c ≤ b) by omega)]
      simp only [vinculumlaw08_ChartSpan.j0]
      rw [if_pos trivial, hc, Option.bind_some, if_pos rfl]
      rfl
    rw [if_neg h1]
    by_cases h2 : c > b
    · rw [decide_eq_true h2, if_neg (show ¬ (a ≤ c ∧ c ≤ b) by omega)]
      simp only [vinculumlaw08_ChartSpan.j0]
      rw [if_pos trivial, hc, Option.bind_some, if_pos rfl]
      rfl
    rw [decide_eq_false h2, if_pos (show a ≤ c ∧ c ≤ b by omega)]
    simp only [vinculumlaw08_ChartSpan.j0]
    rw [if_neg Bool.false_ne_true, hc, Option.bind_some, if_pos rfl, Option.bind_some, if_pos rfl]
    by_cases h3 : c = a
    · rw [if_pos h3, h3, show a - a = 0 by omega, Int.mul_zero, Int.add_zero]
      simp
    · have hw : wrap64 (c - 1) = c - 1 := by unfold wrap64; omega
      have hb := gly_bd hx (c := c) (by simp only; omega) (by simp only; omega)
      have hb1 := gly_bd hx (c := c - 1) (by simp only; omega) (by simp only; omega)
      simp only at hb hb1
      have hs : g + s * (c - 1 - a) + s = g + s * (c - a) := by
        rcases a3 with h4 | h4
        · rw [h4, Int.zero_mul, Int.zero_mul]; omega
        · rw [h4, Int.one_mul, Int.one_mul]; omega
      have hw2 : wrap64 (g + s * (c - 1 - a) + s) = g + s * (c - a) := by rw [hs]; unfold wrap64; omega
      rw [if_neg h3, hw, look_told, Option.bind_some, hg (c - 1), if_pos (show a ≤ c - 1 ∧ c - 1 ≤ b by omega), hw2, if_pos rfl, Option.some.injEq]
      exact decide_eq_true hb.2
end Go.Proofs.Ytgifenlfklbdgaa.Pure
end
