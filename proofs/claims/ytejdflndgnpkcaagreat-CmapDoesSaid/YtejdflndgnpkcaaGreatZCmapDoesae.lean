/- Words, contracts and plain facts of the proof. Each says its own condition. -/
import Derived.Test.YtejdflndgnpkcaaGreatZCmapDoesr
import Derived.Test.YtejdflndgnpkcaaGreatZCmapDoesq
import Derived.Test.YtejdflndgnpkcaaGreatZCmapDoesf
import Derived.Test.YtejdflndgnpkcaaGreatZCmapDoess
import Derived.Test.YtejdflndgnpkcaaGreatZCmapDoesv
import Derived.Test.YtejdflndgnpkcaaGreatZCmapDoese
set_option linter.unusedVariables false
set_option linter.unusedSimpArgs false
section
namespace Go.Proofs.YtejdflndgnpkcaaGreat.P
open Go.RowKit PW PL PM
theorem short10_loop (l : List S61) (hl : l.length ≤ 60) (d : Nat) : ∀ k i, l.length - i = d → i ≤ l.length → 2 * d + 3 ≤ k → ∃ b, r10_Short.l0 k l (i : Int) = some b := by
 induction d with
 | zero =>
  intro k i hd hi hk;obtain ⟨k, rfl⟩ : ∃ n, k = n + 2 := ⟨k - 2, by omega⟩;simp only [r10_Short.l0];rw [if_neg (by omega)];simp only [r10_Short.j1];exact ⟨_, rfl⟩
 | succ d ih =>
  intro k i hd hi hk;obtain ⟨k, rfl⟩ : ∃ n, k = n + 2 := ⟨k - 2, by omega⟩;have hw : wrap64 ((i : Int) + 1) = ((i + 1 : Nat) : Int) := by unfold wrap64; omega
  obtain ⟨b, hb⟩ := ih k (i + 1) (by omega) (by omega) (by omega);simp only [r10_Short.l0];rw [if_pos (by omega), decide_eq_true (show (l.length : Int) ≤ 60 by omega)];simp only [r10_Short.j1];rw [if_pos trivial, if_pos (by omega), if_pos (by omega), hw, hb];split
  ·
   split
   · exact ⟨_, rfl⟩
   exact ⟨_, rfl⟩
  exact ⟨_, rfl⟩
theorem short10_told (l : List S61) (k : Nat) (hk : 200 ≤ k) : ∃ b, r10_Short.f k l = some b ∧ (b = true → l.length ≤ 60) := by
 by_cases hl : l.length ≤ 60
 ·
  obtain ⟨b, hb⟩ := short10_loop l hl l.length k 0 rfl (by omega) (by omega);exact ⟨b, hb, fun _ => hl⟩
 refine ⟨false, ?_, fun h => absurd h (by decide)⟩;obtain ⟨k, rfl⟩ : ∃ n, k = n + 2 := ⟨k - 2, by omega⟩;unfold r10_Short.f;simp only [r10_Short.l0];rw [if_pos (by omega), decide_eq_false (show ¬ (l.length : Int) ≤ 60 by omega)];simp only [r10_Short.j1];rw [if_neg Bool.false_ne_true, decide_eq_false (show ¬ (l.length : Int) ≤ 60 by omega)]
theorem long_ref (s : ByteArray) (p : Nat) (h : p + 4 ≤ s.size) (hp : p ≤ 4000000) (k : Nat) (hk : 16 ≤ k) : r10_long.f k s (p : Int) = some (w4 s p) := by
 have hw : wrap64 ((p : Int) + 4) = ((p + 4 : Nat) : Int) := by unfold wrap64; omega
 unfold r10_long.f;rw [hw, if_pos (by omega), if_pos (by omega), if_pos (by omega), Int.toNat_natCast, Int.toNat_natCast, one_at s p (s := 4) (by decide) 4 rfl h k hk];rfl
theorem spansG_succ (s : ByteArray) (n : Nat) (st : Int) : spansG s (n + 1) st = spansG s n st ++ [⟨w4 s (16 + 12 * n), w4 s (20 + 12 * n), w4 s (24 + 12 * n), st⟩] := by
 unfold spansG;rw [List.range_succ, List.map_append]; rfl
theorem get10_loop (s : ByteArray) (f : Int) (hf : f = 12 ∨ f = 13) (n : Nat) (hn : n ≤ 65536) (hs : 16 + 12 * n ≤ s.size) (d : Nat) : ∀ k i, n - i = d → i ≤ n → d + 131200 ≤ k →
  r10_Get.l0 k s f (n : Int) (spansG s i (13 - f)) (i : Int) = some (if isL (spansG s n (13 - f)) = true then (spansG s n (13 - f), 0) else ([], 5)) := by
 have hw13 : wrap64 (13 - f) = 13 - f := by unfold wrap64; omega
 induction d with
 | zero =>
  intro k i hd hi hk;obtain ⟨k, rfl⟩ : ∃ m, k = m + 1 := ⟨k - 1, by omega⟩;have : i = n := by omega
  subst this;simp only [r10_Get.l0];rw [if_neg (by omega), is_ref8 _ k (.inl (by omega)), Option.bind_some];split <;> rfl
 | succ d ih =>
  intro k i hd hi hk;obtain ⟨k, rfl⟩ : ∃ m, k = m + 1 := ⟨k - 1, by omega⟩;have hw : wrap64 ((i : Int) + 1) = ((i + 1 : Nat) : Int) := by unfold wrap64; omega
  have e1 : wrap64 (12 * (i : Int)) = 12 * (i : Int) := by unfold wrap64; omega
  have e2 : wrap64 (16 + 12 * (i : Int)) = ((16 + 12 * i : Nat) : Int) := by unfold wrap64; omega
  have e3 : wrap64 (((16 + 12 * i : Nat) : Int) + 4) = ((20 + 12 * i : Nat) : Int) := by unfold wrap64; omega
  have e4 : wrap64 (((16 + 12 * i : Nat) : Int) + 8) = ((24 + 12 * i : Nat) : Int) := by unfold wrap64; omega
  have hlen : (spansG s i (13 - f)).length = i := by simp [spansG]
  simp only [r10_Get.l0];rw [if_pos (by omega), e1, e2, e3, e4, long_ref s _ (by omega) (by omega) k (by omega), long_ref s _ (by omega) (by omega) k (by omega), long_ref s _ (by omega) (by omega) k (by omega)];simp only [Option.bind_some];rw [if_pos (by rw [hlen]; omega), hw13, hw, ← spansG_succ];exact ih k (i + 1) (by omega) (by omega) (by omega)
theorem get10_ref (s : ByteArray) (k : Nat) (hk : 200000 ≤ k) : r10_Get.f k s = some (getG s) := by
 unfold r10_Get.f getG;by_cases h16 : s.size < 16
 · rw [if_pos (by omega), if_pos h16]
 rw [if_neg (by omega), if_neg h16, if_pos (by decide), if_pos (by omega), one_w2 s 0 (by omega) k (by omega), Option.bind_some];have hl12 := long_ref s 12 (by omega) (by omega) k (by omega);have hl4 := fun k (hk : 16 ≤ k) => long_ref s 4 (by omega) (by omega) k hk
 rw [show ((12 : Nat) : Int) = 12 from rfl] at hl12;rw [hl12, Option.bind_some];have hbd := w4_bd s 12
 have hj : ∀ q, (q = (decide (w2 s 0 ≠ 12 ∧ w2 s 0 ≠ 13))) → r10_Get.j0 k s (w2 s 0) (w4 s 12) q = some (if w2 s 0 ≠ 12 ∧ w2 s 0 ≠ 13 then ([], 5) else if 65536 < w4 s 12 then ([], 7) else if w4 s 4 ≠ 16 + 12 * w4 s 12 then ([], 5) else if (s.size : Int) < w4 s 4 then ([], 4)
   else if isL (spansG s (w4 s 12).toNat (13 - w2 s 0)) = true then (spansG s (w4 s 12).toNat (13 - w2 s 0), 0) else ([], 5)) := fun q hq => by
  obtain ⟨k, rfl⟩ : ∃ n, k = n + 1 := ⟨k - 1, by omega⟩;simp only [r10_Get.j0];by_cases hf : w2 s 0 ≠ 12 ∧ w2 s 0 ≠ 13
  · rw [hq, decide_eq_true hf, if_pos rfl, if_pos hf]
  rw [hq, decide_eq_false hf, if_neg Bool.false_ne_true, if_neg hf];by_cases h2 : 65536 < w4 s 12
  · rw [if_pos h2, if_pos h2]
  have e1 : wrap64 (12 * w4 s 12) = 12 * w4 s 12 := by unfold wrap64; omega
  have e2 : wrap64 (16 + 12 * w4 s 12) = 16 + 12 * w4 s 12 := by unfold wrap64; omega
  have h4 := hl4 k (by omega);rw [show ((4 : Nat) : Int) = 4 from rfl] at h4;rw [if_neg (by omega), if_neg h2, h4, Option.bind_some, e1, e2];by_cases h3 : w4 s 4 = 16 + 12 * w4 s 12
  case neg => rw [if_neg h3, if_pos h3]
  rw [if_pos h3, if_neg (show ¬ (w4 s 4 ≠ 16 + 12 * w4 s 12) from fun h => h h3), h3];by_cases h5 : (s.size : Int) < 16 + 12 * w4 s 12
  · rw [if_pos h5, if_pos h5]
  rw [if_neg h5, if_neg h5];obtain ⟨n, hn⟩ := Int.eq_ofNat_of_zero_le hbd.1;rw [hn, Int.toNat_natCast];exact get10_loop s (w2 s 0) (by omega) n (by omega) (by omega) n k 0 rfl (Nat.zero_le _) (by omega)
 by_cases h12 : w2 s 0 = 12
 ·
  rw [if_pos h12];exact hj false (by rw [h12]; rfl)
 rw [if_neg h12];refine hj _ ?_;rw [Bool.eq_iff_iff];simp [h12]
theorem partsL_len (x : S61) (st : Int) (n : Nat) : (partsL x st n).length ≤ n := by
 unfold partsL;exact Nat.le_trans (List.length_filter_le _ _) (by simp)
theorem partsL_mono (x : S61) (st : Int) {a b : Nat} (h : a ≤ b) : (partsL x st a).length ≤ (partsL x st b).length := by
 obtain ⟨t, ht⟩ := partsL_pre x st a (b - a);rw [show a + (b - a) = b by omega] at ht;rw [← ht, List.length_append]; omega
theorem split_inner (l : List S61) (st : Int) (acc : List S61) (hacc : acc.length ≤ 200000) (i : Int) (x : S61) (hx : rightN x = true) (m : Nat) (hm : (m : Int) = x.f1 - x.f0 + 1) (d : Nat) : ∀ k j, m - j = d → j < m →
  r10_Split.l1 (k + d + 1) l st (acc ++ partsL x st j) i (x.f0 + (j : Int)) x.f0 x.f1 x.f2 x.f3 = if (acc ++ partsL x st m).length ≤ 65536 then r10_Split.l0 k l st (acc ++ partsL x st m) (wrap64 (i + 1)) else some ([], 7) := by
 obtain ⟨a0, a1, a2, a3, a4, a5, a6⟩ := (right_iff x).1 hx;induction d with
 | zero => intro k j hd hj; omega
 | succ d ih =>
  intro k j hd hj;have e0 : x.f0 + (j : Int) - x.f0 = (j : Int) := by omega
  have e1 : wrap64 (j : Int) = (j : Int) := by unfold wrap64; omega
  have hg : 0 ≤ x.f3 * (j : Int) ∧ x.f3 * (j : Int) ≤ 1114112 := by
   rcases a3 with h | h <;> rw [h] <;> omega
  have e2 : wrap64 (x.f3 * (j : Int)) = x.f3 * (j : Int) := by unfold wrap64; omega
  have e3 : wrap64 (x.f2 + x.f3 * (j : Int)) = x.f2 + x.f3 * (j : Int) := by unfold wrap64; omega
  have e4 : wrap64 (x.f0 + (j : Int) + 1) = x.f0 + ((j + 1 : Nat) : Int) := by unfold wrap64; omega
  have hlen := partsL_len x st j;have hmono := partsL_mono x st (show j + 1 ≤ m by omega);have hsu := partsL_succ x st j
  have hnext : ¬ ((acc ++ partsL x st (j + 1)).length : Int) > 65536 → r10_Split.l1 (k + d + 1) l st (acc ++ partsL x st (j + 1)) i (x.f0 + ((j + 1 : Nat) : Int)) x.f0 x.f1 x.f2 x.f3 = if (acc ++ partsL x st m).length ≤ 65536 then r10_Split.l0 k l st (acc ++ partsL x st m) (wrap64 (i + 1)) else some ([], 7) := fun hle => by
   by_cases hjm : j + 1 < m
   · exact ih k (j + 1) (by omega) hjm
   have ejm : j + 1 = m := by omega
   rw [ejm] at hle ⊢;have hd0 : d = 0 := by omega
   subst hd0;simp only [Nat.add_zero, r10_Split.l1];rw [if_neg (by omega), if_pos (by omega)]
  have hbig : ((acc ++ partsL x st (j + 1)).length : Int) > 65536 → ¬ (acc ++ partsL x st m).length ≤ 65536 := fun h => by
   rw [List.length_append] at h ⊢;omega
  rw [show k + (d + 1) + 1 = (k + d + 1) + 1 by omega];simp only [r10_Split.l1];rw [if_pos (by omega), e0, e1, e2, e3, e4];by_cases hp : x.f2 + x.f3 * (j : Int) > 0
  ·
   rw [if_pos hp, if_pos (by rw [List.length_append]; omega), Option.bind_some]
   have hq : acc ++ partsL x st j ++ [(⟨x.f0 + (j : Int), x.f0 + (j : Int), x.f2 + x.f3 * (j : Int), st⟩ : S61)] = acc ++ partsL x st (j + 1) := by
    rw [hsu, if_pos (by omega), List.append_assoc]; rfl
   rw [hq];by_cases hle : ((acc ++ partsL x st (j + 1)).length : Int) > 65536
   · rw [if_pos hle, if_neg (hbig hle)]
   rw [if_neg hle]; exact hnext hle
  rw [if_neg hp];have hq : partsL x st j = partsL x st (j + 1) := by rw [hsu, if_neg (by omega), List.append_nil]
  rw [hq];by_cases hle : ((acc ++ partsL x st (j + 1)).length : Int) > 65536
  · rw [if_pos hle, if_neg (hbig hle)]
  rw [if_neg hle]; exact hnext hle
def fuelR : Nat → Nat
 | 0 => 1
 | d + 1 => fuelR d + 1114120
theorem split_loop (l : List S61) (st : Int) (hi : isL l = true) (d : Nat) : ∀ k i, l.length - i = d → i ≤ l.length → (splitL (l.take i) st).length ≤ 65536 + i → fuelR d ≤ k →
  r10_Split.l0 k l st (splitL (l.take i) st) (i : Int) = some (if (splitL l st).length ≤ 65536 then (splitL l st, 0) else ([], 7)) := by
 obtain ⟨hl, hr, _⟩ := isL_all hi;induction d with
 | zero =>
  intro k i hd hil hlen hk;have hk1 : 1 ≤ k := hk;obtain ⟨k, rfl⟩ : ∃ n, k = n + 1 := ⟨k - 1, by omega⟩;have : i = l.length := by omega
  subst this;rw [List.take_length];simp only [r10_Split.l0];rw [if_neg (by omega)];by_cases h : (splitL l st).length ≤ 65536
  · rw [if_neg (by omega), if_pos h]
  rw [if_pos (by omega), if_neg h]
 | succ d ih =>
  intro k i hd hil hlen hk;have hlt : i < l.length := by omega
  have hfr : fuelR (d + 1) = fuelR d + 1114120 := rfl;rw [hfr] at hk;have hw : wrap64 ((i : Int) + 1) = ((i + 1 : Nat) : Int) := by unfold wrap64; omega
  have hx := hr _ (List.getElem_mem hlt);obtain ⟨a0, a1, a2, a3, a4, a5, a6⟩ := (right_iff l[i]).1 hx;have hsu := splitL_succ l st i hlt;rw [atS_get l i hlt] at hsu;obtain ⟨x, hxx⟩ : ∃ x, x = l[i] := ⟨_, rfl⟩;rw [← hxx] at hx a0 a1 a2 a3 a4 a5 a6 hsu;obtain ⟨k, rfl⟩ : ∃ n, k = n + 2 := ⟨k - 2, by omega⟩
  have hj : ∀ q, q = decide (x.f3 = st ∨ x.f0 = x.f1) → r10_Split.j2 (k + 1) l st (splitL (l.take i) st) (i : Int) q x.f0 x.f1 x.f2 x.f3 = some (if (splitL l st).length ≤ 65536 then (splitL l st, 0) else ([], 7)) := fun q hq => by
   simp only [r10_Split.j2];by_cases hone : x.f3 = st ∨ x.f0 = x.f1
   ·
    rw [hq, decide_eq_true hone, if_pos rfl, hw];have hpp : partsP x st = if 0 < x.f2 ∨ (x.f3 = 1 ∧ x.f0 < x.f1) then [⟨x.f0, x.f1, x.f2, st⟩] else [] := by unfold partsP; rw [if_pos hone]
    have hyes : (0 < x.f2 ∨ (x.f3 = 1 ∧ x.f0 < x.f1)) → (if (splitL (l.take i) st).length < 4398046511104 then r10_Split.l0 k l st (splitL (l.take i) st ++ [⟨x.f0, x.f1, x.f2, st⟩]) ((i + 1 : Nat) : Int) else none) = some (if (splitL l st).length ≤ 65536 then (splitL l st, 0) else ([], 7)) := fun h => by
     rw [if_pos h] at hpp;rw [if_pos (by omega), ← hpp, ← hsu];exact ih k (i + 1) (by omega) (by omega) (by rw [hsu, hpp, List.length_append, List.length_singleton]; omega) (by omega)
    have hno : ¬ (0 < x.f2 ∨ (x.f3 = 1 ∧ x.f0 < x.f1)) → r10_Split.l0 k l st (splitL (l.take i) st) ((i + 1 : Nat) : Int) = some (if (splitL l st).length ≤ 65536 then (splitL l st, 0) else ([], 7)) := fun h => by
     rw [if_neg h] at hpp;rw [hpp, List.append_nil] at hsu;rw [← hsu];exact ih k (i + 1) (by omega) (by omega) (by rw [hsu]; omega) (by omega)
    by_cases h2 : x.f2 > 0
    · rw [if_pos h2]; exact hyes (.inl h2)
    rw [if_neg h2];by_cases h3 : x.f3 = 1
    case neg => rw [if_neg h3]; exact hno (by omega)
    rw [if_pos h3];by_cases h4 : x.f1 > x.f0
    · rw [if_pos h4]; exact hyes (.inr ⟨h3, h4⟩)
    rw [if_neg h4]; exact hno (by omega)
   rw [hq, decide_eq_false hone, if_neg Bool.false_ne_true];obtain ⟨m, hm⟩ : ∃ m, m = (x.f1 - x.f0 + 1).toNat := ⟨_, rfl⟩;have hm2 : (m : Int) = x.f1 - x.f0 + 1 := by omega
   have hpp : partsP x st = partsL x st m := by unfold partsP; rw [if_neg hone, hm]
   rw [hpp] at hsu;obtain ⟨k, rfl⟩ : ∃ n, k = n + m + 1 := ⟨k - m - 1, by omega⟩;have hin := split_inner l st (splitL (l.take i) st) (by omega) (i : Int) x hx m hm2 m k 0 rfl (by omega);have ez : partsL x st 0 = [] := rfl;rw [ez, List.append_nil, show x.f0 + ((0 : Nat) : Int) = x.f0 by omega, hw, ← hsu] at hin;rw [hin];by_cases hle : (splitL (l.take (i + 1)) st).length ≤ 65536
   ·
    rw [if_pos hle];exact ih k (i + 1) (by omega) (by omega) (by omega) (by omega)
   have := splitL_pre l st (i + 1);rw [if_neg hle, if_neg (by omega)]
  simp only [r10_Split.l0];rw [if_pos (by omega), if_pos (by omega), rd_get l i hlt, ← hxx];by_cases h : x.f3 = st
  · rw [if_pos h]; exact hj true (by rw [decide_eq_true (.inl h)])
  rw [if_neg h];refine hj _ ?_;rw [Bool.eq_iff_iff];simp [h]
def fuelS (l : List S61) : Nat := fuelR l.length + 131200
theorem split_ref (l : List S61) (st : Int) (k : Nat) (hk : fuelS l ≤ k) : r10_Split.f k l st = some (splitN l st) := by
 unfold fuelS at hk;unfold r10_Split.f splitN;obtain ⟨k, rfl⟩ : ∃ n, k = n + 1 := ⟨k - 1, by omega⟩;rw [is_ref8 l (k + 1) (.inl (by omega)), Option.bind_some]
 have hj : ∀ q, q = decide (isL l = false ∨ st < 0 ∨ 1 < st) → r10_Split.j0 (k + 1) l st q = some (if isL l = false ∨ st < 0 ∨ 1 < st then ([], 1) else if (splitL l st).length ≤ 65536 then (splitL l st, 0) else ([], 7)) := fun q hq => by
  simp only [r10_Split.j0];by_cases hb : isL l = false ∨ st < 0 ∨ 1 < st
  · rw [hq, decide_eq_true hb, if_pos rfl, if_pos hb]
  rw [hq, decide_eq_false hb, if_neg Bool.false_ne_true, if_neg hb];have hi : isL l = true := by cases hh : isL l with | true => rfl | false => exact absurd (.inl hh) hb
  exact split_loop l st hi l.length k 0 rfl (Nat.zero_le _) (by simp [splitL]) (by omega)
 cases hi : isL l with
 | false => rw [if_neg Bool.false_ne_true, hj true (by rw [decide_eq_true (.inl hi)]), hi]
 | true =>
  rw [if_pos rfl];by_cases h0 : st < 0
  · rw [if_pos h0, hj true (by rw [decide_eq_true (.inr (.inl h0))]), hi]
  rw [if_neg h0, hj _ ?_, hi];rw [Bool.eq_iff_iff];simp [hi, h0]
theorem bytes_four {v : Int} (h0 : 0 ≤ v) (h1 : v ≤ 4294967295) (k : Nat) (hk : 16 ≤ k) : r03_Bytes.f k v 4 = some ⟨(bytesN v 4).toArray⟩ :=
  bytesN_told v 4 (by omega) (by have : (256 : Int) ^ 4 = 4294967296 := by decide
                                 omega) (by have : (256 : Int) ^ 4 = 4294967296 := by decide
                                            omega) k hk
theorem put10_loop (L : List S61) (hL : L.length ≤ 65536) (hs : ∀ y ∈ L, 0 ≤ y.f0 ∧ y.f0 ≤ y.f1 ∧ y.f1 ≤ 1114111 ∧ 0 ≤ y.f2 ∧ y.f2 ≤ 65535) (H : List UInt8) (hH : H.length = 16) (d : Nat) : ∀ k i, L.length - i = d → i ≤ L.length → d + 17 ≤ k →
  r10_Put.l0 k L ⟨(H ++ spansB (L.take i)).toArray⟩ (i : Int) = some (⟨(H ++ spansB L).toArray⟩, 0) := by
 induction d with
 | zero =>
  intro k i hd hi hk;obtain ⟨k, rfl⟩ : ∃ n, k = n + 1 := ⟨k - 1, by omega⟩;have : i = L.length := by omega
  subst this;rw [List.take_length];simp only [r10_Put.l0];rw [if_neg (by omega)]
 | succ d ih =>
  intro k i hd hi hk;obtain ⟨k, rfl⟩ : ∃ n, k = n + 1 := ⟨k - 1, by omega⟩;have hlt : i < L.length := by omega
  have hw : wrap64 ((i : Int) + 1) = ((i + 1 : Nat) : Int) := by unfold wrap64; omega
  obtain ⟨b0, b1, b2, b3, b4⟩ := hs _ (List.getElem_mem hlt);have hsu := spansB_succ L i hlt;rw [atS_get L i hlt] at hsu
  have hz : (⟨(H ++ spansB (L.take i)).toArray⟩ : ByteArray).size ≤ 800000 := by
   show (H ++ spansB (L.take i)).toArray.size ≤ 800000
   rw [List.size_toArray, List.length_append, hH, spansB_length, List.length_take]; omega
  have hb4 : ∀ v : Int, (⟨(bytesN v 4).toArray⟩ : ByteArray).size = 4 := fun v => by
   show (bytesN v 4).toArray.size = 4
   rw [List.size_toArray, bytesN_length]
  simp only [r10_Put.l0];rw [if_pos (by omega), if_pos (by omega), rd_get L i hlt, bytes_four b0 (by omega) k (by omega), bytes_four (by omega) (by omega) k (by omega), bytes_four b3 (by omega) k (by omega)];simp only [Option.bind_some];rw [if_pos (by rw [hb4]; omega), if_pos (by rw [ByteArray.size_append, hb4, hb4]; omega), if_pos (by rw [ByteArray.size_append, ByteArray.size_append, hb4, hb4, hb4]; omega), hw]
  have e : (⟨(H ++ spansB (L.take i)).toArray⟩ : ByteArray) ++ ⟨(bytesN L[i].f0 4).toArray⟩ ++ ⟨(bytesN L[i].f1 4).toArray⟩ ++ ⟨(bytesN L[i].f2 4).toArray⟩ = ⟨(H ++ spansB (L.take (i + 1))).toArray⟩ := by
   rw [hsu];apply ByteArray.ext
   simp [spanB]
  rw [e];exact ih k (i + 1) (by omega) (by omega) (by omega)
theorem put10_ref (l : List S61) (f : Int) (k : Nat) (hk : fuelS l + 65600 ≤ k) : r10_Put.f k l f = some (putG l f) := by
 have hfu : 131200 ≤ fuelS l := by unfold fuelS; omega
 unfold r10_Put.f putG;obtain ⟨k, rfl⟩ : ∃ n, k = n + 1 := ⟨k - 1, by omega⟩
 have hj : ∀ q, q = decide (f ≠ 12 ∧ f ≠ 13) → r10_Put.j0 (k + 1) l f q = some (if f ≠ 12 ∧ f ≠ 13 then (⟨#[]⟩, 1) else if (splitN l (13 - f)).2 ≠ 0 then (⟨#[]⟩, (splitN l (13 - f)).2) else (⟨(headB f ((splitN l (13 - f)).1.length : Int) ++ spansB (splitN l (13 - f)).1).toArray⟩, 0)) := fun q hq => by
  simp only [r10_Put.j0];by_cases hf : f ≠ 12 ∧ f ≠ 13
  · rw [hq, decide_eq_true hf, if_pos rfl, if_pos hf]
  rw [hq, decide_eq_false hf, if_neg Bool.false_ne_true, if_neg hf];have hw : wrap64 (13 - f) = 13 - f := by unfold wrap64; omega
  rw [hw, split_ref l (13 - f) k (by omega), Option.bind_some];obtain ⟨L, e, hs⟩ : ∃ L e, splitN l (13 - f) = (L, e) := ⟨_, _, rfl⟩;obtain ⟨hL, hsm, _⟩ := splitN_ok hs;rw [hs];dsimp only
  by_cases he : e = 0
  case neg => rw [if_neg he, if_pos he]
  rw [if_pos he, if_neg (fun h => h he)];have e1 : wrap64 (12 * (L.length : Int)) = 12 * (L.length : Int) := by unfold wrap64; omega
  have e2 : wrap64 (16 + 12 * (L.length : Int)) = 16 + 12 * (L.length : Int) := by unfold wrap64; omega
  have hb2 : ∀ v : Int, (⟨(bytesN v 2).toArray⟩ : ByteArray).size = 2 := fun v => by
   show (bytesN v 2).toArray.size = 2
   rw [List.size_toArray, bytesN_length]
  have hb4 : ∀ v : Int, (⟨(bytesN v 4).toArray⟩ : ByteArray).size = 4 := fun v => by
   show (bytesN v 4).toArray.size = 4
   rw [List.size_toArray, bytesN_length]
  have hz2 : (⟨#[0, 0]⟩ : ByteArray).size = 2 := rfl;have hz4 : (⟨#[0, 0, 0, 0]⟩ : ByteArray).size = 4 := rfl;rw [e1, e2, bytes_two (by omega) (by omega) k (by omega)];simp only [Option.bind_some];rw [if_pos (by rw [hb2]; omega), bytes_four (by omega) (by omega) k (by omega)];simp only [Option.bind_some];rw [if_pos (by rw [ByteArray.size_append, hb2, hz2, hb4]; omega), if_pos (by rw [ByteArray.size_append, ByteArray.size_append, hb2, hz2, hb4]; omega), bytes_four (by omega) (by omega) k (by omega)];simp only [Option.bind_some];rw [if_pos (by rw [ByteArray.size_append, ByteArray.size_append, ByteArray.size_append, hb2, hz2, hb4, hz4, hb4]; omega)]
  have e3 : (⟨(bytesN f 2).toArray⟩ : ByteArray) ++ ⟨#[0, 0]⟩ ++ ⟨(bytesN (16 + 12 * (L.length : Int)) 4).toArray⟩ ++ ⟨#[0, 0, 0, 0]⟩ ++ ⟨(bytesN (L.length : Int) 4).toArray⟩ = ⟨(headB f (L.length : Int) ++ spansB (L.take 0)).toArray⟩ := by
   have q2 : bytesN 0 2 = [0, 0] := by decide
   have q4 : bytesN 0 4 = [0, 0, 0, 0] := by decide
   apply ByteArray.ext
   simp [headB, spansB, q2, q4]
  rw [e3];exact put10_loop L hL hsm (headB f (L.length : Int)) (headB_length _ _) L.length k 0 rfl (Nat.zero_le _) (by omega)
 by_cases h12 : f = 12
 ·
  rw [if_pos h12];exact hj false (by rw [h12]; rfl)
 rw [if_neg h12];refine hj _ ?_;rw [Bool.eq_iff_iff];simp [h12]
theorem same_self8 (l : List S61) (h : l.length ≤ 140000) (k : Nat) (hk : l.length < k) : r08_Same.f k l l = some true := by
 unfold r08_Same.f;rw [if_pos rfl]
 have hs : ∀ (d : Nat), ∀ k i, l.length - i = d → i ≤ l.length → d < k → r08_Same.l0 k l l (i : Int) = some true := by
  intro d;induction d with
  | zero =>
   intro k i hd hi hk;obtain ⟨k, rfl⟩ : ∃ n, k = n + 1 := ⟨k - 1, by omega⟩;simp only [r08_Same.l0];rw [if_neg (by omega)]
  | succ d ih =>
   intro k i hd hi hk;obtain ⟨k, rfl⟩ : ∃ n, k = n + 1 := ⟨k - 1, by omega⟩;have hw : wrap64 ((i : Int) + 1) = ((i + 1 : Nat) : Int) := by unfold wrap64; omega
   have := ih k (i + 1) (by omega) (by omega) (by omega);simp only [r08_Same.l0];rw [if_pos (by omega), if_pos (by omega), if_pos (by omega), hw, if_neg (by simp)];exact this
 exact hs l.length k 0 (by omega) (by omega) hk
theorem short_told (l : List S61) (k : Nat) (hk : 200000 ≤ k) : ∃ b, r08_Short.f k l = some b := by
 unfold r08_Short.f;rw [is_ref8 l k (.inl (by omega)), Option.bind_some];cases h : isL l with
 | false => exact ⟨true, by rw [if_neg Bool.false_ne_true]⟩
 | true =>
  have := (isL_all h).1;rw [if_pos rfl, ends_ref h k (by omega), Option.bind_some];by_cases h2 : (endsR l).2.2 = true
  ·
   rw [if_pos h2];by_cases h3 : wrap64 ((endsR l).2.1 - (endsR l).1) < 2000
   · exact ⟨true, by rw [if_pos h3]⟩
   rw [if_neg h3];by_cases h4 : (endsR l).2.1 > 65535
   · exact ⟨true, by rw [if_pos h4]⟩
   exact ⟨_, by rw [if_neg h4]⟩
  exact ⟨true, by rw [if_neg h2]⟩
theorem getC_len (s : ByteArray) : (getC s).1.length ≤ 65536 := by
 by_cases h : (getC s).2 = 0
 ·
  obtain ⟨a, L, h1, h2, h3, _⟩ := get_spans h;rw [h1];have := spans_len a L a;omega
 rw [get_none h]; exact Nat.zero_le _
theorem short09_loop (l : List S61) (hl : l.length ≤ 60) (d : Nat) : ∀ k a i, l.length - i = d → i ≤ l.length → 2 * d + 3 ≤ k → ∃ b, r09_Short.l0 k l a (i : Int) = some b := by
 induction d with
 | zero =>
  intro k a i hd hi hk;obtain ⟨k, rfl⟩ : ∃ n, k = n + 2 := ⟨k - 2, by omega⟩;simp only [r09_Short.l0];rw [if_neg (by omega)];simp only [r09_Short.j1];rw [if_neg Bool.false_ne_true];split <;> exact ⟨_, rfl⟩
 | succ d ih =>
  intro k a i hd hi hk;obtain ⟨k, rfl⟩ : ∃ n, k = n + 2 := ⟨k - 2, by omega⟩;have hw : wrap64 ((i : Int) + 1) = ((i + 1 : Nat) : Int) := by unfold wrap64; omega
  simp only [r09_Short.l0];rw [if_pos (by omega), decide_eq_true (show (l.length : Int) ≤ 60 by omega)];simp only [r09_Short.j1];rw [if_pos trivial, if_pos (by omega), if_pos (by omega), hw];split
  · exact ih k _ (i + 1) (by omega) (by omega) (by omega)
  exact ih k _ (i + 1) (by omega) (by omega) (by omega)
theorem short09_told (l : List S61) (k : Nat) (hk : 200 ≤ k) : ∃ b, r09_Short.f k l = some b ∧ (b = true → l.length ≤ 60) := by
 by_cases hl : l.length ≤ 60
 ·
  obtain ⟨b, hb⟩ := short09_loop l hl l.length k 0 0 rfl (by omega) (by omega);exact ⟨b, hb, fun _ => hl⟩
 refine ⟨false, ?_, fun h => absurd h (by decide)⟩;obtain ⟨k, rfl⟩ : ∃ n, k = n + 2 := ⟨k - 2, by omega⟩;unfold r09_Short.f;simp only [r09_Short.l0];rw [if_pos (by omega), decide_eq_false (show ¬ (l.length : Int) ≤ 60 by omega)];simp only [r09_Short.j1];rw [if_neg Bool.false_ne_true, if_neg (show ¬ (l.length : Int) ≤ 60 by omega)]
def P0 : List S61 := [⟨65, 70, 3, 1⟩, ⟨80, 81, 9, 0⟩]
def P1 : List S61 := [⟨65, 70, 3, 1⟩, ⟨80, 81, 9, 0⟩, ⟨65535, 65535, 0, 1⟩]
def P2 : List S61 := [⟨65, 70, 3, 1⟩, ⟨80, 80, 9, 1⟩, ⟨81, 81, 9, 1⟩, ⟨65535, 65535, 0, 1⟩]
end Go.Proofs.YtejdflndgnpkcaaGreat.P
end
