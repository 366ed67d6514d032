/- Words, contracts and plain facts of the proof. Each says its own condition. -/
import Derived.Test.YtejdflndgnpkcaaGreatZCmapDoesab
import Derived.Test.YtejdflndgnpkcaaGreatZCmapDoesae
import Derived.Test.YtejdflndgnpkcaaGreatZCmapDoesq
import Derived.Test.YtejdflndgnpkcaaGreatZCmapDoese
set_option linter.unusedVariables false
set_option linter.unusedSimpArgs false
section
namespace Go.Proofs.YtejdflndgnpkcaaGreat.P
open Go.RowKit PW PL PM
theorem wsmall9 {x : Int} (h0 : 0 ≤ x) (h1 : x ≤ 1000000) : wrap64 x = x := by unfold wrap64; omega
theorem wnat9 {x : Int} {n : Nat} (h : x = (n : Int)) (h1 : n ≤ 1000000) : wrap64 x = (n : Int) := by rw [wsmall9 (by omega) (by omega), h]
theorem word_ref (s : ByteArray) (p : Nat) (h : p + 2 ≤ s.size) (hp : p ≤ 900000) (k : Nat) (hk : 16 ≤ k) : r09_word.f k s (p : Int) = some (w2 s p) := by
 have hw : wrap64 ((p : Int) + 2) = ((p + 2 : Nat) : Int) := wnat9 (by omega) (by omega);unfold r09_word.f;rw [hw, if_pos (by omega), if_pos (by omega), if_pos (by omega), Int.toNat_natCast, Int.toNat_natCast, one_w2 s p h k hk];rfl
theorem plane_ref {x : Int} (h0 : 0 ≤ x) (h1 : x ≤ 131071) : r09_plane.f x = some (x % 65536) := by
 unfold r09_plane.f;by_cases h : x ≥ 65536
 · rw [if_pos h, wsmall9 (by omega) (by omega)]; congr 1; omega
 rw [if_neg h]; congr 1; omega
theorem near_ref {a b d : Int} (ha : 0 ≤ a) (hab : a ≤ b) (hb : b ≤ 65535) (hd : 0 ≤ d ∧ d ≤ 65535) : r09_near.f a b d = some (nearF a b d) := by
 unfold r09_near.f;rw [wsmall9 (x := a + d) (by omega) (by omega), plane_ref (by omega) (by omega), Option.bind_some];unfold nearF;obtain ⟨g, hg⟩ : ∃ g, g = (a + d) % 65536 := ⟨_, rfl⟩;rw [← hg];have hgb : 0 ≤ g ∧ g ≤ 65535 := by omega
 clear hg;rw [wsmall9 (x := g + b) (by omega) (by omega), wsmall9 (x := g + b - a) (by omega) (by omega), wsmall9 (x := a + 65535) (by omega) (by omega), wsmall9 (x := a + 65535 - g) (by omega) (by omega), wsmall9 (x := a + 65535 - g + 1) (by omega) (by omega)];by_cases h : g + b - a ≤ 65535
 · rw [if_pos h, if_pos h, if_pos (by decide)]; rfl
 rw [if_neg h, if_neg h, if_pos (by decide), Option.bind_some, if_pos (by simp)];rfl
theorem spans_snoc9 : ∀ (L : List Int) (a g : Int), spansN a (L ++ [g]) = spansN a L ++ (if g = 0 then [] else [⟨a + (L.length : Int), a + (L.length : Int), g, 1⟩])
 | [], a, g => by
  simp only [List.nil_append, spansN, List.length_nil];split
  · rfl
  simp
 | x :: r, a, g => by
  rw [List.cons_append];have e : a + 1 + (r.length : Int) = a + ((r.length + 1 : Nat) : Int) := by omega
  simp only [spansN, List.length_cons];rw [spans_snoc9 r (a + 1) g, e];split
  · rfl
  rw [List.cons_append]
theorem far_snoc9 (t : ByteArray) (a d : Int) (base m : Nat) : farF t a d base (m + 1) = farF t a d base m ++ (if glyF (w2 t (base + 2 * m)) d = 0 then [] else [⟨a + (m : Int), a + (m : Int), glyF (w2 t (base + 2 * m)) d, 1⟩]) := by
 unfold farF;rw [List.range_succ, List.map_append, List.map_cons, List.map_nil, spans_snoc9, List.length_map, List.length_range]
theorem far_len9 (t : ByteArray) (a d : Int) (base m : Nat) : (farF t a d base m).length ≤ m := by
 unfold farF;have := spans_len a ((List.range m).map (fun k => glyF (w2 t (base + 2 * k)) d)) a;rw [List.length_map, List.length_range] at this;exact this
theorem far_loop9 (t : ByteArray) (a b d : Int) (own o m : Nat) (hm : (m : Int) = b - a + 1) (ha : 0 ≤ a) (hb : b ≤ 65535) (hd : 0 ≤ d ∧ d ≤ 65535) (ho : w2 t own = (o : Int)) (how : own + 2 ≤ t.size) (hsz : t.size ≤ 65535) (e : Nat) : ∀ k i, m - i = e → i ≤ m → (i = 0 ∨ own + o + 2 * i ≤ t.size) → 0 < m → e + 40 ≤ k →
  r09_far.l0 k t a b d (own : Int) (farF t a d (own + o) i) (a + (i : Int)) = some (if own + o + 2 * m ≤ t.size then (farF t a d (own + o) m, 0) else ([], 4)) := by
 have hob := w2_bd t own;have hoo : o ≤ 65535 := by omega
 have ho' := aK ho;clear hob ho;induction e with
 | zero =>
  intro k i he hi hs hm0 hk;obtain ⟨k, rfl⟩ : ∃ n, k = n + 1 := ⟨k - 1, by omega⟩;have him : i = m := by omega
  subst him;simp only [r09_far.l0];rw [if_neg (by omega), if_pos (by omega)]
 | succ e ih =>
  intro k i he hi hs hm0 hk;obtain ⟨k, rfl⟩ : ∃ n, k = n + 1 := ⟨k - 1, by omega⟩;have e1 : a + (i : Int) - a = (i : Int) := by omega
  simp only [r09_far.l0];rw [if_pos (by omega), word_ref t own how (by omega) k (by omega), Option.bind_some, ho'.out, e1, wsmall9 (x := (i : Int)) (by omega) (by omega), wsmall9 (x := 2 * (i : Int)) (by omega) (by omega), wsmall9 (x := (own : Int) + (o : Int)) (by omega) (by omega), wnat9 (x := (own : Int) + (o : Int) + 2 * (i : Int)) (n := own + o + 2 * i) (by omega) (by omega), wnat9 (x := ((own + o + 2 * i : Nat) : Int) + 2) (n := own + o + 2 * i + 2) (by omega) (by omega), show a + (i : Int) + 1 = a + ((i + 1 : Nat) : Int) by omega, wsmall9 (x := a + ((i + 1 : Nat) : Int)) (by omega) (by omega)];by_cases hmiss : ((own + o + 2 * i + 2 : Nat) : Int) > (t.size : Int)
  · rw [if_pos hmiss, if_neg (by omega)]
  rw [if_neg hmiss, word_ref t (own + o + 2 * i) (by omega) (by omega) k (by omega), Option.bind_some];have hvb := w2_bd t (own + o + 2 * i);have hsn := far_snoc9 t a d (own + o) i;obtain ⟨v, hv⟩ : ∃ v, v = w2 t (own + o + 2 * i) := ⟨_, rfl⟩;rw [← hv] at hvb hsn ⊢;clear hv;have hnext := ih k (i + 1) (by omega) (by omega) (.inr (by omega)) hm0 (by omega);have hfl := far_len9 t a d (own + o) i;have hfl2 : (farF t a d (own + o) i).length < 4398046511104 := Nat.lt_of_le_of_lt (Nat.le_trans hfl (show i ≤ 65536 by omega)) (by decide);rw [wsmall9 (x := v + d) (by omega) (by omega), plane_ref (by omega) (by omega), Option.bind_some];unfold glyF at hsn;by_cases hv0 : v > 0
  ·
   rw [if_neg (show ¬ v = 0 by omega)] at hsn;rw [if_pos hv0];by_cases hg : (v + d) % 65536 > 0
   ·
    rw [if_neg (show ¬ (v + d) % 65536 = 0 by omega)] at hsn;rw [if_pos hg, if_pos hfl2, ← hsn];exact hnext
   rw [if_pos (show (v + d) % 65536 = 0 by omega), List.append_nil] at hsn;rw [if_neg hg, ← hsn];exact hnext
  rw [if_pos (show v = 0 by omega), if_pos rfl, List.append_nil] at hsn;rw [if_neg hv0, ← hsn];exact hnext
theorem far_ref (t : ByteArray) {a b d : Int} (own : Nat) (ha : 0 ≤ a) (hab : a ≤ b) (hb : b ≤ 65535) (hd : 0 ≤ d ∧ d ≤ 65535) (how : own + 2 ≤ t.size) (hsz : t.size ≤ 65535) (k : Nat) (hk : 70000 ≤ k) : r09_far.f k t a b d (own : Int) = some (if own + (w2 t own).toNat + 2 * (b - a + 1).toNat ≤ t.size then (farF t a d (own + (w2 t own).toNat) (b - a + 1).toNat, 0) else ([], 4)) := by
 have hob := w2_bd t own;have := far_loop9 t a b d own (w2 t own).toNat (b - a + 1).toNat (by omega) ha hb hd (by omega) how hsz (b - a + 1).toNat k 0 (by omega) (Nat.zero_le _) (.inl rfl) (by omega) (by omega);unfold r09_far.f;rw [show a + ((0 : Nat) : Int) = a by omega] at this;exact this
theorem w14 (i : Nat) (h : i ≤ 10000) : wrap64 (14 + wrap64 (2 * (i : Int))) = ((14 + 2 * i : Nat) : Int) := by
 rw [wsmall9 (x := 2 * (i : Int)) (by omega) (by omega), wnat9 (n := 14 + 2 * i) (by omega) (by omega)]
theorem wc2 (n i : Nat) (hn : n ≤ 10000) (h : i ≤ 10000) : wrap64 (wrap64 (16 + wrap64 (2 * (n : Int))) + wrap64 (2 * (i : Int))) = ((16 + 2 * n + 2 * i : Nat) : Int) := by
 rw [wsmall9 (x := 2 * (i : Int)) (by omega) (by omega), wsmall9 (x := 2 * (n : Int)) (by omega) (by omega), wsmall9 (x := 16 + 2 * (n : Int)) (by omega) (by omega), wnat9 (n := 16 + 2 * n + 2 * i) (by omega) (by omega)]
theorem wc4 (n i : Nat) (hn : n ≤ 10000) (h : i ≤ 10000) : wrap64 (wrap64 (16 + wrap64 (4 * (n : Int))) + wrap64 (2 * (i : Int))) = ((16 + 4 * n + 2 * i : Nat) : Int) := by
 rw [wsmall9 (x := 2 * (i : Int)) (by omega) (by omega), wsmall9 (x := 4 * (n : Int)) (by omega) (by omega), wsmall9 (x := 16 + 4 * (n : Int)) (by omega) (by omega), wnat9 (n := 16 + 4 * n + 2 * i) (by omega) (by omega)]
theorem wc6 (n i : Nat) (hn : n ≤ 10000) (h : i ≤ 10000) : wrap64 (wrap64 (16 + wrap64 (6 * (n : Int))) + wrap64 (2 * (i : Int))) = ((16 + 6 * n + 2 * i : Nat) : Int) := by
 rw [wsmall9 (x := 2 * (i : Int)) (by omega) (by omega), wsmall9 (x := 6 * (n : Int)) (by omega) (by omega), wsmall9 (x := 16 + 6 * (n : Int)) (by omega) (by omega), wnat9 (n := 16 + 6 * n + 2 * i) (by omega) (by omega)]
theorem wi1 (i : Nat) (h : i ≤ 100000) : wrap64 ((i : Int) + 1) = ((i + 1 : Nat) : Int) := wnat9 (by omega) (by omega)
theorem segs_none9 {t : ByteArray} {n i : Nat} (h : segsF t n i = none) : ∀ d, segsF t n (i + d) = none
 | 0 => h
 | d + 1 => by
  show (segsF t n (i + d)).bind _ = _
  rw [segs_none9 h d]; rfl
theorem segs_step {t : ByteArray} {n i : Nat} {l : List S61} (h : segsF t n i = some l) : segsF t n (i + 1) = (segAt t n i).bind (fun m => some (l ++ m)) := by
 show (segsF t n i).bind _ = _
 rw [h]; rfl
theorem right_of {t : ByteArray} {n i : Nat} (hr : rightF t n = true) (hi : i < n) : rightAt t n i = true := by
 unfold rightF at hr;exact List.all_eq_true.1 (Bool.and_eq_true_iff.1 hr).1 i (List.mem_range.2 hi)
def segsR (t : ByteArray) (n : Nat) : List S61 × Int :=
 match segsF t n n with
 | none => ([], 4)
 | some l => (l, 0)
theorem segsR_none {t : ByteArray} {n : Nat} (h : segsF t n n = none) : segsR t n = ([], 4) := by unfold segsR; rw [h]
theorem segsR_some {t : ByteArray} {n : Nat} {l : List S61} (h : segsF t n n = some l) : segsR t n = (l, 0) := by unfold segsR; rw [h]
theorem getS_else {s : ByteArray} (h : ¬ s.size < 14) : getS s = if w2 s 0 ≠ 4 ∨ w2 s 6 % 2 ≠ 0 ∨ w2 s 6 / 2 = 0 then (([], 5) : List S61 × Int)
      else if (s.size : Int) < w2 s 2 then ([], 4) else if w2 s 2 < 16 + 8 * (cntF s : Int) then ([], 5)
      else if rightF (s.extract 0 (w2 s 2).toNat) (cntF s) = false then ([], 5) else segsR (s.extract 0 (w2 s 2).toNat) (cntF s) := by
  unfold getS;rw [if_neg h];cases hq : segsF (s.extract 0 (w2 s 2).toNat) (cntF s) (cntF s) with
  | none => rw [segsR_none hq]
  | some l => rw [segsR_some hq]
theorem get9_segs (t : ByteArray) (n : Nat) (hsz : t.size ≤ 65535) (hn : 16 + 8 * n ≤ t.size) (hr : rightF t n = true) (e : Nat) : ∀ k i l, n - i = e → i ≤ n → segsF t n i = some l → e + 70001 ≤ k →
  r09_Get.l1 k t (n : Int) l (i : Int) = some (segsR t n) := by
 induction e with
 | zero =>
  intro k i l he hi hl hk;obtain ⟨k, rfl⟩ : ∃ m, k = m + 1 := ⟨k - 1, by omega⟩;have hin : i = n := by omega
  subst hin;simp only [r09_Get.l1];rw [if_neg (by omega), segsR_some hl]
 | succ e ih =>
  intro k i l he hi hl hk;obtain ⟨k, rfl⟩ : ∃ m, k = m + 1 := ⟨k - 1, by omega⟩;simp only [r09_Get.l1];rw [if_pos (by omega), w14 i (by omega), wc2 n i (by omega) (by omega), wc4 n i (by omega) (by omega), wc6 n i (by omega) (by omega), wi1 i (by omega)];rw [word_ref t _ (by omega) (by omega) k (by omega), Option.bind_some, word_ref t _ (by omega) (by omega) k (by omega), Option.bind_some, word_ref t _ (by omega) (by omega) k (by omega), Option.bind_some, word_ref t _ (by omega) (by omega) k (by omega), Option.bind_some];have hra := right_of hr (show i < n by omega);have hto : w2 t (14 + 2 * i) = toF t i := rfl;have hfr : w2 t (16 + 2 * n + 2 * i) = fromF t n i := rfl;have hde : w2 t (16 + 4 * n + 2 * i) = delF t n i := rfl;have hof : w2 t (16 + 6 * n + 2 * i) = offF t n i := rfl;have b1 := w2_bd t (14 + 2 * i);have b2 := w2_bd t (16 + 2 * n + 2 * i);have b3 := w2_bd t (16 + 4 * n + 2 * i)
  have hle : fromF t n i ≤ toF t i := by
   unfold rightAt at hra;exact of_decide_eq_true (Bool.and_eq_true_iff.1 hra).1
  have hst := segs_step hl;have hlen := segs_len hr hi hl;unfold segAt segF at hst;by_cases h0 : offF t n i = 0
  ·
   rw [if_pos h0, Option.bind_some] at hst;have hlen2 := segs_len hr (show i + 1 ≤ n by omega) hst;rw [List.length_append] at hlen2;rw [hof, if_pos h0, hto, hfr, hde, near_ref (by omega) hle (by omega) (by omega), Option.bind_some, if_pos (Nat.lt_of_le_of_lt hlen2 (by decide))];exact ih k (i + 1) _ (by omega) (by omega) hst (by omega)
  rw [if_neg h0] at hst;rw [hof, if_neg h0, hto, hfr, hde, far_ref t _ (by omega) hle (by omega) (by omega) (by omega) hsz k (by omega), Option.bind_some, hof];by_cases hfit : 16 + 6 * n + 2 * i + (offF t n i).toNat + 2 * (toF t i - fromF t n i + 1).toNat ≤ t.size
  ·
   rw [if_pos hfit, Option.bind_some] at hst;have hlen2 := segs_len hr (show i + 1 ≤ n by omega) hst;rw [List.length_append] at hlen2;rw [if_pos hfit];show (if (0 : Int) = 0 then _ else _) = _
   rw [if_pos rfl, if_pos (Nat.lt_of_le_of_lt hlen2 (by decide))];exact ih k (i + 1) _ (by omega) (by omega) hst (by omega)
  rw [if_neg hfit] at hst;have hnone := segs_none9 (show segsF t n (i + 1) = none from hst) (n - (i + 1));rw [show i + 1 + (n - (i + 1)) = n by omega] at hnone;rw [if_neg hfit, segsR_none hnone];show (if (4 : Int) = 0 then _ else _) = _
  rw [if_neg (by decide)]
theorem right_all (t : ByteArray) (n : Nat) : ∀ e i, n - i = e → i ≤ n → (∀ j, j < i → rightAt t n j = true) → (rightF t n = true ↔ ((∀ j, i ≤ j → j < n → rightAt t n j = true) ∧ lastF t n = 65535)) := fun e i he hi hb => by
 unfold rightF;rw [Bool.and_eq_true, List.all_eq_true, decide_eq_true_eq];constructor
 · exact fun h => ⟨fun j _ hj => h.1 j (List.mem_range.2 hj), h.2⟩
 refine fun h => ⟨fun j hj => ?_, h.2⟩
 have hj := List.mem_range.1 hj;by_cases hji : j < i
 · exact hb j hji
 exact h.1 j (by omega) hj
theorem get9_right (t : ByteArray) (n : Nat) (hsz : t.size ≤ 65535) (hn : 16 + 8 * n ≤ t.size) (e : Nat) : ∀ k i, n - i = e → i ≤ n → (∀ j, j < i → rightAt t n j = true) → e + n + 70003 ≤ k →
  r09_Get.l0 k t (n : Int) (lastF t i) (i : Int) = some (if rightF t n = false then (([], 5) : List S61 × Int) else segsR t n) := by
 induction e with
 | zero =>
  intro k i he hi hb hk;obtain ⟨k, rfl⟩ : ∃ m, k = m + 1 := ⟨k - 1, by omega⟩;have hin : i = n := by omega
  subst hin;simp only [r09_Get.l0];rw [if_neg (by omega)];by_cases hl : lastF t i = 65535
  ·
   have hr : rightF t i = true := (right_all t i 0 i (by omega) hi hb).2 ⟨fun j h1 h2 => absurd h2 (by omega), hl⟩;rw [if_pos hl, hr, if_neg (by decide)];exact get9_segs t i hsz hn hr i k 0 [] (by omega) (Nat.zero_le _) rfl (by omega)
  have hr : rightF t i = false := by
   cases hq : rightF t i with
   | false => rfl
   | true => exact absurd ((right_all t i 0 i (by omega) hi hb).1 hq).2 hl
  rw [if_neg hl, hr, if_pos rfl]
 | succ e ih =>
  intro k i he hi hb hk;obtain ⟨k, rfl⟩ : ∃ m, k = m + 1 := ⟨k - 1, by omega⟩;have hto : w2 t (14 + 2 * i) = toF t i := rfl;have hfr : w2 t (16 + 2 * n + 2 * i) = fromF t n i := rfl;have hof : w2 t (16 + 6 * n + 2 * i) = offF t n i := rfl
  have hbad : rightAt t n i = false → rightF t n = false := fun h => by
   cases hq : rightF t n with
   | false => rfl
   | true => rw [right_of hq (by omega)] at h; exact absurd h (by decide)
  simp only [r09_Get.l0];rw [if_pos (by omega), w14 i (by omega), wc2 n i (by omega) (by omega), wc6 n i (by omega) (by omega), wi1 i (by omega)];rw [word_ref t _ (by omega) (by omega) k (by omega), Option.bind_some, word_ref t _ (by omega) (by omega) k (by omega), Option.bind_some, hto, hfr];by_cases h1 : fromF t n i > toF t i
  · rw [if_pos h1, hbad (by unfold rightAt; rw [decide_eq_false (by omega)]; rfl), if_pos rfl]
  rw [if_neg h1];by_cases h2 : fromF t n i ≤ lastF t i
  · rw [if_pos h2, hbad (by unfold rightAt; rw [decide_eq_false (show ¬ lastF t i < fromF t n i by omega)]; simp), if_pos rfl]
  rw [if_neg h2, word_ref t _ (by omega) (by omega) k (by omega), Option.bind_some, hof];have hob : 0 ≤ offF t n i ∧ offF t n i ≤ 65535 := w2_bd t _;have hmod : Int.tmod (offF t n i) 2 = offF t n i % 2 := Int.tmod_eq_emod_of_nonneg hob.1;rw [hmod];by_cases h3 : offF t n i % 2 = 1
  · rw [if_pos h3, hbad (by unfold rightAt; rw [decide_eq_false (show ¬ offF t n i % 2 = 0 by omega)]; simp), if_pos rfl]
  rw [if_neg h3]
  have hra : rightAt t n i = true := by
   unfold rightAt;rw [decide_eq_true (show fromF t n i ≤ toF t i by omega), decide_eq_true (show lastF t i < fromF t n i by omega), decide_eq_true (show offF t n i % 2 = 0 by omega)];rfl
  exact ih k (i + 1) (by omega) (by omega) (fun j hj => by
   by_cases hji : j = i
   · rw [hji]; exact hra
   exact hb j (by omega)) (by omega)
theorem get9_ref (s : ByteArray) (k : Nat) (hk : 250000 ≤ k) (hs : s.size ≤ 3000000) : r09_Get.f k s = some (getS s) := by
 unfold r09_Get.f;by_cases h14 : s.size < 14
 ·
  rw [if_pos (by omega)];unfold getS;rw [if_pos h14]
 rw [if_neg (by omega)];have q6 := word_ref s 6 (by omega) (by omega) k (by omega);have q0 := word_ref s 0 (by omega) (by omega) k (by omega);rw [show ((6 : Nat) : Int) = 6 from rfl] at q6;rw [show ((0 : Nat) : Int) = 0 from rfl] at q0;have b6 := w2_bd s 6;have b2 := w2_bd s 2;have hn : (cntF s : Int) = w2 s 6 / 2 := by unfold cntF; omega
 have hdv : wrap64 (Int.tdiv (w2 s 6) 2) = (cntF s : Int) := by
  rw [Int.tdiv_eq_ediv_of_nonneg b6.1, hn];exact wsmall9 (by omega) (by omega)
 have hmd : Int.tmod (w2 s 6) 2 = w2 s 6 % 2 := Int.tmod_eq_emod_of_nonneg b6.1;rw [q6, Option.bind_some, q0, Option.bind_some, hdv, Option.bind_some, hmd];clear hdv hmd
 have hj : ∀ q : Bool, (q = true ↔ (w2 s 0 ≠ 4 ∨ w2 s 6 % 2 ≠ 0 ∨ w2 s 6 / 2 = 0)) → r09_Get.j0 k s (cntF s : Int) q = some (getS s) := fun q hq => by
  obtain ⟨k, rfl⟩ : ∃ m, k = m + 1 := ⟨k - 1, by omega⟩;rw [getS_else h14];simp only [r09_Get.j0];by_cases hc : w2 s 0 ≠ 4 ∨ w2 s 6 % 2 ≠ 0 ∨ w2 s 6 / 2 = 0
  · rw [hq.2 hc, if_pos rfl, if_pos hc]
  have hqf : q = false := by cases q with | false => rfl | true => exact absurd (hq.1 rfl) hc
  have q2 := word_ref s 2 (by omega) (by omega) k (by omega);rw [show ((2 : Nat) : Int) = 2 from rfl] at q2;rw [hqf, if_neg Bool.false_ne_true, if_neg hc, q2, Option.bind_some, Option.bind_some, Option.bind_some, wsmall9 (x := 8 * (cntF s : Int)) (by omega) (by omega), wsmall9 (x := 16 + 8 * (cntF s : Int)) (by omega) (by omega)];by_cases h1 : w2 s 2 > (s.size : Int)
  · rw [if_pos h1, if_pos h1]
  rw [if_neg h1, if_neg (show ¬ (s.size : Int) < w2 s 2 from h1)];by_cases h2 : w2 s 2 < 16 + 8 * (cntF s : Int)
  · rw [if_pos h2, if_pos h2]
  rw [if_neg h2, if_neg h2, if_pos b2.1, if_pos (by omega)];have hts : (s.extract 0 (w2 s 2).toNat).size = (w2 s 2).toNat := by rw [ByteArray.size_extract]; omega
  exact get9_right (s.extract 0 (w2 s 2).toNat) (cntF s) (by rw [hts]; omega) (by rw [hts]; omega) (cntF s) k 0 (by omega) (Nat.zero_le _) (fun j hj => absurd hj (by omega)) (by omega)
 by_cases h4 : w2 s 0 = 4
 ·
  rw [if_pos h4];by_cases h6 : w2 s 6 % 2 = 1
  · rw [if_pos h6]; exact hj true ⟨fun _ => .inr (.inl (by omega)), fun _ => rfl⟩
  rw [if_neg h6];refine hj _ ?_;rw [beq_iff_eq];constructor
  · intro h; exact .inr (.inr (by omega))
  rintro (h | h | h)
  · exact absurd h4 h
  · omega
  omega
 rw [if_neg h4];have hq : (true = true ↔ (w2 s 0 ≠ 4 ∨ w2 s 6 % 2 ≠ 0 ∨ w2 s 6 / 2 = 0)) := ⟨fun _ => .inl h4, fun _ => rfl⟩;have := hj true hq;exact this
theorem cntR_succ9 (L : List S61) (i : Nat) (h : i < L.length) : cntR (L.take (i + 1)) = cntR (L.take i) + cntX L[i] := by
 rw [List.take_add_one, List.getElem?_eq_getElem h, cntR_app];simp [cntR]
theorem take_succ9 {α : Type} (L : List α) (i : Nat) (h : i < L.length) : L.take (i + 1) = L.take i ++ [L[i]] := by
 rw [List.take_add_one, List.getElem?_eq_getElem h]; rfl
theorem row_ref (x : S61) : r09_row.f x.f0 x.f1 x.f2 x.f3 = some (rowN x) := by
 unfold r09_row.f rowN;by_cases h : x.f3 = 0
 · rw [if_pos h, h]; simp
 rw [if_neg h, beq_eq_false_iff_ne.2 h]; rfl
theorem glyph_ref {x : S61} (hx : rightN x = true) : r09_glyph.f x.f0 x.f1 x.f2 x.f3 = some (keptN x) := by
 have hk := kept_has hx;unfold r09_glyph.f;by_cases h : x.f2 > 0
 · rw [if_pos h, hk.2 (.inl h)]
 rw [if_neg h];by_cases h3 : x.f3 = 1
 ·
  rw [if_pos h3];by_cases h4 : x.f1 > x.f0
  · rw [decide_eq_true h4, hk.2 (.inr ⟨h3, h4⟩)]
  rw [decide_eq_false h4];congr 1
  cases hq : keptN x with
  | false => rfl
  | true => rcases hk.1 hq with h5 | h5; exact absurd h5 h; exact absurd h5.2 h4
 rw [if_neg h3];congr 1
 cases hq : keptN x with
 | false => rfl
 | true => rcases hk.1 hq with h5 | h5; exact absurd h5 h; exact absurd h5.1 h3
theorem kept_loop (l : List S61) (hr : ∀ x ∈ l, rightN x = true) (hl : l.length ≤ 65536) (e : Nat) : ∀ k i, l.length - i = e → i ≤ l.length → e + 1 ≤ k → r09_kept.l0 k l (keptL (l.take i)) (i : Int) = some (keptL l) := by
 induction e with
 | zero =>
  intro k i he hi hk;obtain ⟨k, rfl⟩ : ∃ m, k = m + 1 := ⟨k - 1, by omega⟩;simp only [r09_kept.l0];rw [if_neg (by omega), List.take_of_length_le (by omega)]
 | succ e ih =>
  intro k i he hi hk;obtain ⟨k, rfl⟩ : ∃ m, k = m + 1 := ⟨k - 1, by omega⟩;have hil : i < l.length := by omega
  have hlen : (keptL (l.take i)).length < 4398046511104 := Nat.lt_of_le_of_lt (Nat.le_trans (List.length_filter_le _ _) (Nat.le_trans (List.length_take_le _ _) (show i ≤ 65536 by omega))) (by decide);have hn := ih k (i + 1) (by omega) (by omega) (by omega)
  have hk2 : keptL (l.take (i + 1)) = keptL (l.take i) ++ (if keptN l[i] = true then [l[i]] else []) := by
   unfold keptL;rw [take_succ9 l i hil, List.filter_append];congr 1
   cases hq : keptN l[i] with
   | true => rw [if_pos rfl]; exact List.filter_cons_of_pos hq
   | false => rw [if_neg Bool.false_ne_true]; exact List.filter_cons_of_neg (by rw [hq]; exact Bool.false_ne_true)
  simp only [r09_kept.l0];rw [if_pos (by omega), if_pos (by omega), rd_get l i hil, glyph_ref (hr _ (List.getElem_mem hil)), Option.bind_some, wi1 i (by omega)];cases hq : keptN l[i] with
  | true =>
   rw [hq, if_pos rfl] at hk2;rw [if_pos rfl, if_pos hlen];rw [hk2] at hn;exact hn
  | false =>
   rw [hq, if_neg (by decide), List.append_nil] at hk2;rw [if_neg Bool.false_ne_true];rw [hk2] at hn;exact hn
theorem kept_ref {l : List S61} (h : isL l = true) (k : Nat) (hk : 65537 ≤ k) : r09_kept.f k l = some (keptL l) := by
 obtain ⟨hl, hr, _⟩ := isL_all h;unfold r09_kept.f;exact kept_loop l hr hl l.length k 0 rfl (Nat.zero_le _) (by omega)
def seenS (l : List S61) : Bool := l.any (fun x => x.f1 == 65535)
theorem wbig9 {x : Int} (h0 : 0 ≤ x) (h1 : x ≤ 900000000000) : wrap64 x = x := by unfold wrap64; omega
theorem wtot (a b : Nat) (ha : a ≤ 100000) (hb : b ≤ 65536 * 65536) : wrap64 (wrap64 (16 + wrap64 (8 * (a : Int))) + wrap64 (2 * (b : Int))) = 16 + 8 * (a : Int) + 2 * (b : Int) := by
 rw [wbig9 (x := 2 * (b : Int)) (by omega) (by omega), wbig9 (x := 8 * (a : Int)) (by omega) (by omega), wbig9 (x := 16 + 8 * (a : Int)) (by omega) (by omega), wbig9 (by omega) (by omega)]
theorem wcnt {a : Nat} {p q : Int} (ha : a ≤ 65536 * 65536) (h0 : 0 ≤ p) (h1 : p ≤ q) (h2 : q ≤ 65535) : wrap64 (wrap64 (wrap64 ((a : Int) + q) - p) + 1) = ((a + (q - p + 1).toNat : Nat) : Int) := by
 rw [wbig9 (x := (a : Int) + q) (by omega) (by omega), wbig9 (x := (a : Int) + q - p) (by omega) (by omega), wbig9 (x := (a : Int) + q - p + 1) (by omega) (by omega)]; omega
def manyS (K : List S61) (i : Nat) : Int × Int × Int :=
 if farS (K.drop i) = true then (0, 0, 7) else if 65535 < 16 + 8 * (closeL K).length + 2 * cntR K then (0, 0, 7) else (((closeL K).length : Int), (cntR K : Int), 0)
theorem close_len {K : List S61} (hr : ∀ x ∈ K, rightN x = true) (ho : ordN K = true) (hf : ∀ x ∈ K, x.f1 ≤ 65535) : (closeL K).length = if seenS K = true then K.length else K.length + 1 := by
 unfold closeL tailS;rw [List.length_append];by_cases h0 : K.length = 0
 ·
  have : K = [] := List.length_eq_zero_iff.1 h0;subst this;rfl
 have hat := atS_get K (K.length - 1) (by omega);have hm : K[K.length - 1]'(by omega) ∈ K := List.getElem_mem (by omega);by_cases h1 : (atS K (K.length - 1)).f1 < 65535
 ·
  have hs : seenS K = false := by
   cases hq : seenS K with
   | false => rfl
   | true =>
    unfold seenS at hq;obtain ⟨x, hx, hx1⟩ := List.any_eq_true.1 hq;have hx1 := beq_iff_eq.1 hx1;obtain ⟨j, hj, rfl⟩ := List.getElem_of_mem hx;rw [hat] at h1;by_cases e : j = K.length - 1
    · subst e; omega
    have := ord_at_lt hr ho (show j < K.length - 1 by omega) (by omega);have := ((right_iff _).1 (hr _ hm)).2.1;omega
  rw [if_pos (.inr h1), hs, if_neg (by decide)];rfl
 have hs : seenS K = true := by
  unfold seenS;rw [List.any_eq_true];refine ⟨_, hm, beq_iff_eq.2 ?_⟩;have := hf _ hm;rw [hat] at h1;omega
 rw [if_neg (by rintro (h | h); exact h0 h; exact h1 h), hs, if_pos rfl];rfl
theorem many_loop (K : List S61) (hr : ∀ x ∈ K, rightN x = true) (ho : ordN K = true) (hl : K.length ≤ 65536) (e : Nat) : ∀ k i, K.length - i = e → i ≤ K.length → (∀ x ∈ K.take i, x.f1 ≤ 65535) → cntR (K.take i) ≤ 65536 * i → e + 1 ≤ k →
  r09_Many.l0 k K (cntR (K.take i) : Int) (seenS (K.take i)) (i : Int) = some (manyS K i) := by
 induction e with
 | zero =>
  intro k i he hi hf hc hk;obtain ⟨k, rfl⟩ : ∃ m, k = m + 1 := ⟨k - 1, by omega⟩;have hil : i = K.length := by omega
  subst hil;rw [List.take_of_length_le (Nat.le_refl _)] at hf hc ⊢;have hcl := close_len hr ho hf;have hb : cntR K ≤ 65536 * 65536 := Nat.le_trans hc (Nat.mul_le_mul_left 65536 hl);have hd : farS (K.drop K.length) = false := by rw [List.drop_length]; rfl
  simp only [r09_Many.l0];unfold manyS;rw [if_neg (by omega), hd, hcl];cases hs : seenS K with
  | true =>
   rw [if_pos rfl, wtot K.length (cntR K) (by omega) hb, if_neg Bool.false_ne_true, if_pos rfl];by_cases hx : 65535 < 16 + 8 * K.length + 2 * cntR K
   · rw [if_pos (by omega), if_pos hx]
   rw [if_neg (by omega), if_neg hx]
  | false =>
   rw [if_neg Bool.false_ne_true, wi1 K.length (by omega), if_neg Bool.false_ne_true, if_neg Bool.false_ne_true, wtot (K.length + 1) (cntR K) (by omega) hb];by_cases hx : 65535 < 16 + 8 * (K.length + 1) + 2 * cntR K
   · rw [if_pos (by omega), if_pos hx]
   rw [if_neg (by omega), if_neg hx]
 | succ e ih =>
  intro k i he hi hf hc hk;obtain ⟨k, rfl⟩ : ∃ m, k = m + 1 := ⟨k - 1, by omega⟩;have hil : i < K.length := by omega
  obtain ⟨a0, a1, _⟩ := (right_iff _).1 (hr _ (List.getElem_mem hil))
  have hdr : farS (K.drop i) = (decide (K[i].f1 > 65535) || farS (K.drop (i + 1))) := by
   rw [List.drop_eq_getElem_cons hil]; rfl
  simp only [r09_Many.l0];rw [if_pos (by omega), if_pos (by omega), rd_get K i hil];by_cases h1 : K[i].f1 > 65535
  ·
   unfold manyS;rw [if_pos h1, hdr, decide_eq_true h1, Bool.true_or, if_pos rfl]
  have hm : manyS K i = manyS K (i + 1) := by
   unfold manyS;rw [hdr, decide_eq_false h1, Bool.false_or]
  have hsucc := cntR_succ9 K i hil
  have hf' : ∀ x ∈ K.take (i + 1), x.f1 ≤ 65535 := fun x hx => by
   rw [take_succ9 K i hil] at hx;rcases List.mem_append.1 hx with h | h
   · exact hf x h
   rw [List.mem_singleton.1 h]; omega
  have hseen : seenS (K.take (i + 1)) = (seenS (K.take i) || (K[i].f1 == 65535)) := by
   unfold seenS;rw [take_succ9 K i hil, List.any_append];simp
  have hb : cntR (K.take i) ≤ 65536 * 65536 := Nat.le_trans hc (Nat.mul_le_mul_left 65536 (by omega))
  have hxc : cntX K[i] ≤ 65536 := by
   unfold cntX;split <;> omega
  have hn := ih k (i + 1) (by omega) (by omega) hf' (by rw [hsucc]; omega) (by omega);rw [if_neg h1, row_ref, Option.bind_some, hm, wi1 i (by omega)]
  have hbool : ∀ (F : Bool → Option (Int × Int × Int)), (if seenS (K.take i) = true then F true else F (K[i].f1 == 65535)) = F (seenS (K.take (i + 1))) := fun F => by
   rw [hseen];cases hq : seenS (K.take i) with
   | true => rw [if_pos rfl]; rfl
   | false => rw [if_neg Bool.false_ne_true]; rfl
  cases hrow : rowN K[i] with
  | true =>
   have hcx : cntX K[i] = (K[i].f1 - K[i].f0 + 1).toNat := by unfold cntX; rw [hrow, if_pos rfl]
   rw [if_pos rfl, wcnt hb a0 a1 (by omega), ← hcx, ← hsucc];rw [hbool (fun b => r09_Many.l0 k K (cntR (K.take (i + 1)) : Int) b ((i + 1 : Nat) : Int))];exact hn
  | false =>
   have hcx : cntX K[i] = 0 := by unfold cntX; rw [hrow, if_neg Bool.false_ne_true]
   have hsucc2 : cntR (K.take (i + 1)) = cntR (K.take i) := by rw [hsucc, hcx]; rfl
   rw [if_neg Bool.false_ne_true, ← hsucc2];rw [hbool (fun b => r09_Many.l0 k K (cntR (K.take (i + 1)) : Int) b ((i + 1 : Nat) : Int))];exact hn
theorem many9_ref (l : List S61) (k : Nat) (hk : 140000 ≤ k) : r09_Many.f k l = some (((segP l).1.length : Int), (segP l).2.1, (segP l).2.2) := by
 unfold r09_Many.f;rw [is_ref8 l k (.inl (by omega)), Option.bind_some];unfold segP;cases hi : isL l with
 | false => rfl
 | true =>
  obtain ⟨hl, hr, ho⟩ := isL_all hi;rw [if_pos rfl, kept_ref hi k (by omega), Option.bind_some, if_neg (by decide)];have hkr : ∀ x ∈ keptL l, rightN x = true := fun x hx => hr x (List.mem_filter.1 hx).1
  have hko : ordN (keptL l) = true := ord_filter l keptN hr ho;have hkl : (keptL l).length ≤ 65536 := Nat.le_trans (List.length_filter_le _ _) hl;have := many_loop (keptL l) hkr hko hkl (keptL l).length k 0 rfl (Nat.zero_le _) (fun x hx => absurd hx (by simp)) (by simp [cntR]) (by omega);refine Eq.trans this ?_;unfold manyS;rw [List.drop_zero];split
  · rfl
  split <;> rfl
theorem snocB (P : List Int) (v : Int) : (⟨(bytesS P).toArray⟩ : ByteArray) ++ (⟨(bytesN v 2).toArray⟩ : ByteArray) = ⟨(bytesS (P ++ [v])).toArray⟩ := by
 rw [ba_join, bytesS_app];simp [bytesS]
theorem snocZ (P : List Int) : (⟨(bytesS P).toArray⟩ : ByteArray) ++ (⟨#[0, 0]⟩ : ByteArray) = ⟨(bytesS (P ++ [0])).toArray⟩ := snocB P 0
theorem big9 {a : Nat} (h : a ≤ 500000) : a ≤ 9223372036854775807 := Nat.le_trans h (by decide)
theorem fitB {P : List Int} (v : Int) (h : P.length ≤ 200000) : (⟨(bytesS P).toArray⟩ : ByteArray).size + (⟨(bytesN v 2).toArray⟩ : ByteArray).size ≤ 9223372036854775807 := by
 rw [ba_size, ba_size, bytesS_length, bytesN_length];exact big9 (by omega)
theorem fitZ {P : List Int} (h : P.length ≤ 200000) : (⟨(bytesS P).toArray⟩ : ByteArray).size + 2 ≤ 9223372036854775807 := by
 rw [ba_size, bytesS_length];exact big9 (by omega)
theorem map_snoc {f : S61 → Int} (P : List Int) (L : List S61) (i : Nat) (h : i < L.length) : P ++ (L.take i).map f ++ [f L[i]] = P ++ (L.take (i + 1)).map f := by
 rw [take_succ9 L i h, List.map_append, List.append_assoc]; rfl
theorem put_l2 (L : List S61) (hL : L.length ≤ 10000) (hw : ∀ x ∈ L, 0 ≤ x.f1 ∧ x.f1 ≤ 65535) (P : List Int) (hP : P.length ≤ 100000) (R : Option (ByteArray × Int)) (B : Nat) (hB : 16 ≤ B)
  (hnext : ∀ k, B ≤ k → r09_Put.l3 k L (L.length : Int) ⟨(bytesS (P ++ L.map (fun x => x.f1) ++ [0])).toArray⟩ 0 = R) (e : Nat) : ∀ k i, L.length - i = e → i ≤ L.length → e + 1 + B ≤ k →
  r09_Put.l2 k L (L.length : Int) ⟨(bytesS (P ++ (L.take i).map (fun x => x.f1))).toArray⟩ (i : Int) = R := by
 induction e with
 | zero =>
  intro k i he hi hk;obtain ⟨k, rfl⟩ : ∃ m, k = m + 1 := ⟨k - 1, by omega⟩;simp only [r09_Put.l2];rw [if_neg (by omega), List.take_of_length_le (by omega), if_pos (fitZ (by rw [List.length_append, List.length_map]; omega)), snocZ];exact hnext k (by omega)
 | succ e ih =>
  intro k i he hi hk;obtain ⟨k, rfl⟩ : ∃ m, k = m + 1 := ⟨k - 1, by omega⟩;have hil : i < L.length := by omega
  obtain ⟨h0, h1⟩ := hw _ (List.getElem_mem hil);simp only [r09_Put.l2];rw [if_pos (by omega), if_pos (by omega), if_pos (by omega), rd_get L i hil, bytes_two h0 h1 k (by omega), Option.bind_some, if_pos (fitB _ (by rw [List.length_append, List.length_map]; have := List.length_take_le i L; omega)), snocB, wi1 i (by omega), map_snoc (f := fun x => x.f1) P L i hil];exact ih k (i + 1) (by omega) (by omega) (by omega)
theorem put_l3 (L : List S61) (hL : L.length ≤ 10000) (hw : ∀ x ∈ L, 0 ≤ x.f0 ∧ x.f0 ≤ 65535) (P : List Int) (hP : P.length ≤ 100000) (R : Option (ByteArray × Int)) (B : Nat) (hB : 16 ≤ B)
  (hnext : ∀ k, B ≤ k → r09_Put.l4 k L (L.length : Int) ⟨(bytesS (P ++ L.map (fun x => x.f0))).toArray⟩ 0 = R) (e : Nat) : ∀ k i, L.length - i = e → i ≤ L.length → e + 1 + B ≤ k →
  r09_Put.l3 k L (L.length : Int) ⟨(bytesS (P ++ (L.take i).map (fun x => x.f0))).toArray⟩ (i : Int) = R := by
 induction e with
 | zero =>
  intro k i he hi hk;obtain ⟨k, rfl⟩ : ∃ m, k = m + 1 := ⟨k - 1, by omega⟩;simp only [r09_Put.l3];rw [if_neg (by omega), List.take_of_length_le (by omega)];exact hnext k (by omega)
 | succ e ih =>
  intro k i he hi hk;obtain ⟨k, rfl⟩ : ∃ m, k = m + 1 := ⟨k - 1, by omega⟩;have hil : i < L.length := by omega
  obtain ⟨h0, h1⟩ := hw _ (List.getElem_mem hil);simp only [r09_Put.l3];rw [if_pos (by omega), if_pos (by omega), if_pos (by omega), rd_get L i hil, bytes_two h0 h1 k (by omega), Option.bind_some, if_pos (fitB _ (by rw [List.length_append, List.length_map]; have := List.length_take_le i L; omega)), snocB, wi1 i (by omega), map_snoc (f := fun x => x.f0) P L i hil];exact ih k (i + 1) (by omega) (by omega) (by omega)
theorem put_l4 (L : List S61) (hL : L.length ≤ 10000) (hw : ∀ x ∈ L, 0 ≤ x.f0 ∧ x.f0 ≤ 65535 ∧ 0 ≤ x.f2 ∧ x.f2 ≤ 65535) (P : List Int) (hP : P.length ≤ 100000) (R : Option (ByteArray × Int)) (B : Nat) (hB : 16 ≤ B)
  (hnext : ∀ k, B ≤ k → r09_Put.l5 k L (L.length : Int) ⟨(bytesS (P ++ L.map delS)).toArray⟩ 0 ⟨#[]⟩ 0 = R) (e : Nat) : ∀ k i, L.length - i = e → i ≤ L.length → e + 1 + B ≤ k →
  r09_Put.l4 k L (L.length : Int) ⟨(bytesS (P ++ (L.take i).map delS)).toArray⟩ (i : Int) = R := by
 induction e with
 | zero =>
  intro k i he hi hk;obtain ⟨k, rfl⟩ : ∃ m, k = m + 1 := ⟨k - 1, by omega⟩;simp only [r09_Put.l4];rw [if_neg (by omega), List.take_of_length_le (by omega)];exact hnext k (by omega)
 | succ e ih =>
  intro k i he hi hk;obtain ⟨k, rfl⟩ : ∃ m, k = m + 1 := ⟨k - 1, by omega⟩;have hil : i < L.length := by omega
  obtain ⟨h0, h1, h2, h3⟩ := hw _ (List.getElem_mem hil);have hn := ih k (i + 1) (by omega) (by omega) (by omega);rw [← map_snoc (f := delS) P L i hil] at hn;have hfit : (P ++ (L.take i).map delS).length ≤ 200000 := by rw [List.length_append, List.length_map]; have := List.length_take_le i L; omega
  simp only [r09_Put.l4];rw [if_pos (by omega), if_pos (by omega), if_pos (by omega), rd_get L i hil, row_ref, Option.bind_some, wi1 i (by omega)];have hdv : delS L[i] = if rowN L[i] = true then 0 else (65536 + L[i].f2 - L[i].f0) % 65536 := rfl
  rw [hdv] at hn;cases hrow : rowN L[i] with
  | true =>
   rw [hrow, if_pos rfl] at hn;rw [if_pos rfl, bytes_two (by decide) (by decide) k (by omega), Option.bind_some, if_pos (fitB _ hfit), snocB];exact hn
  | false =>
   rw [hrow, if_neg Bool.false_ne_true] at hn;rw [if_neg Bool.false_ne_true, wsmall9 (x := 65536 + L[i].f2) (by omega) (by omega), wsmall9 (x := 65536 + L[i].f2 - L[i].f0) (by omega) (by omega), plane_ref (by omega) (by omega), Option.bind_some, bytes_two (by omega) (by omega) k (by omega), Option.bind_some, if_pos (fitB _ hfit), snocB];exact hn
theorem rest_succ (L : List S61) (i : Nat) (h : i < L.length) : restS (L.take (i + 1)) = restS (L.take i) ++ List.replicate (cntX L[i]) L[i].f2 := by
 unfold restS;rw [take_succ9 L i h, List.flatMap_append];simp
theorem put_l6 (L : List S61) (g : GoodS L) (Q : List Int) (i : Nat) (h : i < L.length) (m : Nat) (hm : (m : Int) = L[i].f1 - L[i].f0 + 1) (x9 : ByteArray) (x19 : Int) (c : Nat) (hc : c ≤ 70000) (hQ : Q.length = c) (hmc : c + m ≤ 70000) (R : Option (ByteArray × Int)) (B : Nat) (hB : 16 ≤ B)
  (hnext : ∀ k, B ≤ k → ((r03_Bytes.f k x19 2).bind fun t705 => (if x9.size + t705.size ≤ 9223372036854775807 then (r09_Put.l5 k L (L.length : Int) (x9 ++ t705) ((c + m : Nat) : Int) ⟨(bytesS (Q ++ List.replicate m L[i].f2)).toArray⟩ (wrap64 ((i : Int) + 1))) else (none))) = R) (e : Nat) : ∀ k j, m - j = e → j ≤ m → e + 1 + B ≤ k →
  r09_Put.l6 k L (L.length : Int) x9 ((c + j : Nat) : Int) ⟨(bytesS (Q ++ List.replicate j L[i].f2)).toArray⟩ (i : Int) x19 (L[i].f0 + (j : Int)) = R := by
 have hr := (right_iff _).1 (g.r _ (List.getElem_mem h));have hm1 := g.m _ (List.getElem_mem h);induction e with
 | zero =>
  intro k j he hj hk;obtain ⟨k, rfl⟩ : ∃ m, k = m + 1 := ⟨k - 1, by omega⟩;have hjm : j = m := by omega
  simp only [r09_Put.l6];rw [if_pos (by omega), if_pos (by omega), rd_get L i h, if_neg (by omega), hjm];exact hnext k (by omega)
 | succ e ih =>
  intro k j he hj hk;obtain ⟨k, rfl⟩ : ∃ m, k = m + 1 := ⟨k - 1, by omega⟩;have hn := ih k (j + 1) (by omega) (by omega) (by omega);rw [List.replicate_succ', ← List.append_assoc] at hn;simp only [r09_Put.l6];rw [if_pos (by omega), if_pos (by omega), rd_get L i h, if_pos (by omega), bytes_two hr.2.2.2.2.1 hr.2.2.2.2.2.1 k (by omega), Option.bind_some, if_pos (fitB _ (by rw [List.length_append, List.length_replicate]; omega)), snocB, wnat9 (x := ((c + j : Nat) : Int) + 1) (n := c + (j + 1)) (by omega) (by omega), show L[i].f0 + (j : Int) + 1 = L[i].f0 + ((j + 1 : Nat) : Int) by omega, wsmall9 (x := L[i].f0 + ((j + 1 : Nat) : Int)) (by omega) (by omega)];exact hn
theorem put_l5 (L : List S61) (g : GoodS L) (P : List Int) (hP : P.length ≤ 100000) (e : Nat) : ∀ k i, L.length - i = e → i ≤ L.length → 2 * e + (cntR L - cntR (L.take i)) + 20 ≤ k →
  r09_Put.l5 k L (L.length : Int) ⟨(bytesS (P ++ (offsS 0 L).take i)).toArray⟩ (cntR (L.take i) : Int) ⟨(bytesS (restS (L.take i))).toArray⟩ (i : Int) = some (⟨(bytesS (P ++ offsS 0 L ++ restS L)).toArray⟩, 0) := by
 have hs := g.s;have hol := offs_length L 0;induction e with
 | zero =>
  intro k i he hi hk;obtain ⟨k, rfl⟩ : ∃ m, k = m + 1 := ⟨k - 1, by omega⟩;simp only [r09_Put.l5];rw [if_neg (by omega), List.take_of_length_le (by omega), List.take_of_length_le (by omega), if_pos (by rw [ba_size, ba_size, bytesS_length, bytesS_length, List.length_append, rest_length, hol]; exact big9 (by omega)), ba_join, ← bytesS_app]
 | succ e ih =>
  intro k i he hi hk;obtain ⟨k, rfl⟩ : ∃ m, k = m + 1 := ⟨k - 1, by omega⟩;have hil : i < L.length := by omega
  obtain ⟨a0, a1, _, _, a4, a5, _⟩ := (right_iff _).1 (g.r _ (List.getElem_mem hil));have a2 := g.m _ (List.getElem_mem hil);have hct := cntR_succ9 L i hil;have hct2 := cntR_take L (i + 1);have hoff := offs_at L i hil;have hP5 : (P ++ (offsS 0 L).take i).length ≤ 200000 := by rw [List.length_append]; have := List.length_take_le i (offsS 0 L); omega
  have hot : P ++ (offsS 0 L).take i ++ [(offsS 0 L)[i]'(by omega)] = P ++ (offsS 0 L).take (i + 1) := by
   rw [take_succ9 (offsS 0 L) i (by omega), List.append_assoc]
  have hrs := rest_succ L i hil;have hx : cntX L[i] = if rowN L[i] = true then (L[i].f1 - L[i].f0 + 1).toNat else 0 := rfl
  simp only [r09_Put.l5];rw [if_pos (by omega), if_pos (by omega), if_pos (by omega), rd_get L i hil, row_ref, Option.bind_some];cases hrow : rowN L[i] with
  | false =>
   rw [hrow, if_neg Bool.false_ne_true] at hoff hx;rw [hx] at hrs hct;have hn := ih k (i + 1) (by omega) (by omega) (by omega);rw [hct, hrs, ← hot, hoff] at hn;simp only [List.replicate_zero, List.append_nil, Nat.add_zero] at hn;rw [if_neg Bool.false_ne_true, bytes_two (by decide) (by decide) k (by omega), Option.bind_some, if_pos (fitB _ hP5), snocB, wi1 i (by omega)];exact hn
  | true =>
   rw [hrow, if_pos rfl] at hoff hx;have hsz : 2 * ((L.length - i : Nat) : Int) + 2 * (cntR (L.take i) : Int) ≤ 65535 := by omega
   rw [if_pos rfl, show (L.length : Int) - (i : Int) = ((L.length - i : Nat) : Int) by omega, wsmall9 (x := ((L.length - i : Nat) : Int)) (by omega) (by omega), wsmall9 (x := 2 * ((L.length - i : Nat) : Int)) (by omega) (by omega), wsmall9 (x := 2 * (cntR (L.take i) : Int)) (by omega) (by omega), wsmall9 (x := 2 * ((L.length - i : Nat) : Int) + 2 * (cntR (L.take i) : Int)) (by omega) (by omega)];have hrl : (restS (L.take i)).length = cntR (L.take i) := rest_length _
   have := put_l6 L g (restS (L.take i)) i hil (cntX L[i]) (by rw [hx]; omega) ⟨(bytesS (P ++ (offsS 0 L).take i)).toArray⟩ (2 * ((L.length - i : Nat) : Int) + 2 * (cntR (L.take i) : Int)) (cntR (L.take i)) (by omega) hrl (by omega)
    (some (⟨(bytesS (P ++ offsS 0 L ++ restS L)).toArray⟩, 0)) (2 * e + (cntR L - cntR (L.take (i + 1))) + 20) (by omega) (fun k' hk' => by
     have hn := ih k' (i + 1) (by omega) (by omega) hk';rw [hct, hrs, ← hot, hoff] at hn;rw [bytes_two (by omega) hsz k' (by omega), Option.bind_some, if_pos (fitB _ hP5), snocB, wi1 i (by omega)];exact hn) (cntX L[i]) k 0 (by omega) (Nat.zero_le _) (by omega)
   simp only [List.replicate_zero, List.append_nil, Nat.add_zero] at this;rw [show L[i].f0 + ((0 : Nat) : Int) = L[i].f0 by omega] at this;exact this
theorem put_l1 (L : List S61) (H : List Int) (hH : H.length ≤ 100) (hw : ∀ v ∈ H, 0 ≤ v ∧ v ≤ 65535) (R : Option (ByteArray × Int)) (B : Nat) (hB : 16 ≤ B)
  (hnext : ∀ k, B ≤ k → r09_Put.l2 k L (L.length : Int) ⟨(bytesS H).toArray⟩ 0 = R) (e : Nat) : ∀ k i, H.length - i = e → i ≤ H.length → e + 1 + B ≤ k →
  r09_Put.l1 k L (L.length : Int) ⟨(bytesS (H.take i)).toArray⟩ H (i : Int) = R := by
 induction e with
 | zero =>
  intro k i he hi hk;obtain ⟨k, rfl⟩ : ∃ m, k = m + 1 := ⟨k - 1, by omega⟩;simp only [r09_Put.l1];rw [if_neg (by omega), List.take_of_length_le (by omega)];exact hnext k (by omega)
 | succ e ih =>
  intro k i he hi hk;obtain ⟨k, rfl⟩ : ∃ m, k = m + 1 := ⟨k - 1, by omega⟩;have hil : i < H.length := by omega
  have hr : rd H (i : Int) = H[i] := by unfold rd; simp [List.getD_eq_getElem?_getD, List.getElem?_eq_getElem hil]
  obtain ⟨h0, h1⟩ := hw _ (List.getElem_mem hil);simp only [r09_Put.l1];rw [if_pos (by omega), if_pos (by omega), hr, bytes_two h0 h1 k (by omega), Option.bind_some, if_pos (fitB _ (by have := List.length_take_le i H; omega)), snocB, wi1 i (by omega), ← take_succ9 H i hil];exact ih k (i + 1) (by omega) (by omega) (by omega)
theorem put_l0 (L : List S61) (n kk : Nat) (hn0 : 0 < n) (hn : n ≤ 10000) (hk9 : kk ≤ 40000) (R : Option (ByteArray × Int)) (B : Nat)
  (hnext : ∀ k, B ≤ k → r09_Put.l1 k L (n : Int) ⟨#[]⟩ (headS n kk) 0 = R) (e : Nat) : ∀ k j, n.log2 - j = e → j ≤ n.log2 → e + 1 + B ≤ k →
  r09_Put.l0 k L (n : Int) (kk : Int) ((2 ^ j : Nat) : Int) (j : Int) = R := by
 obtain ⟨q1, q2⟩ := log2_bd hn0;induction e with
 | zero =>
  intro k j he hj hk;obtain ⟨k, rfl⟩ : ∃ m, k = m + 1 := ⟨k - 1, by omega⟩;have hjl : j = n.log2 := by omega
  subst hjl
  have hup : ¬ 2 * 2 ^ n.log2 ≤ n := fun h => by
   have : 2 ^ (n.log2 + 1) ≤ n := by rw [Nat.pow_succ]; omega
   have := (Nat.le_log2 (by omega)).2 this;omega
  obtain ⟨p, hp⟩ : ∃ p, p = 2 ^ n.log2 := ⟨_, rfl⟩;have hh : headS n kk = [4, 16 + 8 * (n : Int) + 2 * (kk : Int), 0, 2 * (n : Int), 2 * (p : Int), (n.log2 : Int), 2 * (n : Int) - 2 * (p : Int)] := by rw [hp]; rfl
  rw [hh] at hnext;rw [← hp] at hup q1 ⊢;clear hp hh;simp only [r09_Put.l0];rw [wsmall9 (x := 2 * (p : Int)) (by omega) (by omega), wsmall9 (x := 2 * (n : Int)) (by omega) (by omega), wsmall9 (x := 8 * (n : Int)) (by omega) (by omega), wsmall9 (x := 2 * (kk : Int)) (by omega) (by omega), wsmall9 (x := 16 + 8 * (n : Int)) (by omega) (by omega), wsmall9 (x := 16 + 8 * (n : Int) + 2 * (kk : Int)) (by omega) (by omega), wsmall9 (x := 2 * (n : Int) - 2 * (p : Int)) (by omega) (by omega), if_neg (by omega)];exact hnext k (by omega)
 | succ e ih =>
  intro k j he hj hk;obtain ⟨k, rfl⟩ : ∃ m, k = m + 1 := ⟨k - 1, by omega⟩;have hup : 2 ^ (j + 1) ≤ n := (Nat.le_log2 (by omega)).1 (by omega);have hn' := ih k (j + 1) (by omega) (by omega) (by omega);have h2 : 2 ^ (j + 1) = 2 * 2 ^ j := by rw [Nat.pow_succ]; omega
  rw [h2] at hup hn';obtain ⟨p, hp⟩ : ∃ p, p = 2 ^ j := ⟨_, rfl⟩;rw [← hp] at hup hn' ⊢;clear hp h2;simp only [r09_Put.l0];rw [wnat9 (x := 2 * (p : Int)) (n := 2 * p) (by omega) (by omega), if_pos (by omega), wi1 j (by omega)];exact hn'
theorem put9_ref (l : List S61) (k : Nat) (hk : 300000 ≤ k) : r09_Put.f k l = some (putS l) := by
 unfold r09_Put.f;rw [many9_ref l k (by omega), Option.bind_some];by_cases h0 : (segP l).2.2 = 0
 case neg =>
  rw [if_neg h0];unfold putS;rw [if_pos h0]
 rw [if_pos h0];obtain ⟨L, kk, hs⟩ : ∃ L kk, segP l = (L, kk, 0) := ⟨(segP l).1, (segP l).2.1, by rw [← h0]⟩;obtain ⟨hi, hL, hkk, hcc, g⟩ := segP_good hs
 have hP : putS l = (⟨(bytesS (outS L (cntR L))).toArray⟩, 0) := by
  unfold putS;rw [hs, hkk];rfl
 rw [hs, hkk, hP, kept_ref hi k (by omega), Option.bind_some];have hgs := g.s;have hfit := out_fits g
 have hmem : ∀ x ∈ L, 0 ≤ x.f0 ∧ x.f0 ≤ x.f1 ∧ x.f1 ≤ 65535 ∧ 0 ≤ x.f2 ∧ x.f2 ≤ 65535 := fun x hx => by
  obtain ⟨a0, a1, _, _, a4, a5, _⟩ := (right_iff _).1 (g.r _ hx);exact ⟨a0, a1, g.m _ hx, a4, a5⟩
 have hj0 : r09_Put.j0 k L (L.length : Int) (cntR L : Int) = some (⟨(bytesS (outS L (cntR L))).toArray⟩, 0) := by
  obtain ⟨k, rfl⟩ : ∃ m, k = m + 1 := ⟨k - 1, by omega⟩;obtain ⟨R, hR⟩ : ∃ R : Option (ByteArray × Int), R = some (⟨(bytesS (outS L (cntR L))).toArray⟩, 0) := ⟨_, rfl⟩
  have hout : outS L (cntR L) = headS L.length (cntR L) ++ L.map (fun x => x.f1) ++ [0] ++ L.map (fun x => x.f0) ++ L.map delS ++ offsS 0 L ++ restS L := by
   unfold outS; simp only [List.append_assoc]
  have hhl : (headS L.length (cntR L)).length = 7 := rfl
  have h5 : ∀ k, 100000 ≤ k → r09_Put.l5 k L (L.length : Int) ⟨(bytesS (headS L.length (cntR L) ++ L.map (fun x => x.f1) ++ [0] ++ L.map (fun x => x.f0) ++ L.map delS)).toArray⟩ 0 ⟨#[]⟩ 0 = R := fun k hk => by
   have := put_l5 L g (headS L.length (cntR L) ++ L.map (fun x => x.f1) ++ [0] ++ L.map (fun x => x.f0) ++ L.map delS) (by simp only [List.length_append, List.length_map, hhl, List.length_cons, List.length_nil]; omega) L.length k 0 (by omega) (Nat.zero_le _) (by omega);rw [← hout, ← hR, List.take_zero, List.append_nil] at this;exact this
  have h4 : ∀ k, 120000 ≤ k → r09_Put.l4 k L (L.length : Int) ⟨(bytesS (headS L.length (cntR L) ++ L.map (fun x => x.f1) ++ [0] ++ L.map (fun x => x.f0))).toArray⟩ 0 = R := fun k hk => by
   have := put_l4 L (by omega) (fun x hx => by have := hmem x hx; omega) (headS L.length (cntR L) ++ L.map (fun x => x.f1) ++ [0] ++ L.map (fun x => x.f0)) (by simp only [List.length_append, List.length_map, hhl, List.length_cons, List.length_nil]; omega) R 100000 (by omega) h5 L.length k 0 (by omega) (Nat.zero_le _) (by omega);rw [List.take_zero, List.map_nil, List.append_nil] at this;exact this
  have h3 : ∀ k, 140000 ≤ k → r09_Put.l3 k L (L.length : Int) ⟨(bytesS (headS L.length (cntR L) ++ L.map (fun x => x.f1) ++ [0])).toArray⟩ 0 = R := fun k hk => by
   have := put_l3 L (by omega) (fun x hx => by have := hmem x hx; omega) (headS L.length (cntR L) ++ L.map (fun x => x.f1) ++ [0]) (by simp only [List.length_append, List.length_map, hhl, List.length_cons, List.length_nil]; omega) R 120000 (by omega) h4 L.length k 0 (by omega) (Nat.zero_le _) (by omega);rw [List.take_zero, List.map_nil, List.append_nil] at this;exact this
  have h2 : ∀ k, 160000 ≤ k → r09_Put.l2 k L (L.length : Int) ⟨(bytesS (headS L.length (cntR L))).toArray⟩ 0 = R := fun k hk => by
   have := put_l2 L (by omega) (fun x hx => by have := hmem x hx; omega) (headS L.length (cntR L)) (by omega) R 140000 (by omega) h3 L.length k 0 (by omega) (Nat.zero_le _) (by omega);rw [List.take_zero, List.map_nil, List.append_nil] at this;exact this
  have hhead : ∀ v ∈ headS L.length (cntR L), 0 ≤ v ∧ v ≤ 65535 := fun v hv => hfit v (by unfold outS; exact List.mem_append.2 (.inl hv))
  have h1 : ∀ k, 180000 ≤ k → r09_Put.l1 k L (L.length : Int) ⟨#[]⟩ (headS L.length (cntR L)) 0 = R := fun k hk =>
   put_l1 L (headS L.length (cntR L)) (by omega) hhead R 160000 (by omega) h2 7 k 0 rfl (Nat.zero_le _) (by omega)
  have hlg := (log2_bd g.n).2;simp only [r09_Put.j0];rw [← hR];exact put_l0 L L.length (cntR L) g.n (by omega) (by omega) R 180000 h1 L.length.log2 k 0 rfl (Nat.zero_le _) (by omega)
 have htail := hL;unfold closeL tailS at htail;by_cases hlt : ((keptL l).length : Int) < (L.length : Int)
 ·
  have hkl : (keptL l).length < 4398046511104 := Nat.lt_of_le_of_lt (show (keptL l).length ≤ 70000 by omega) (by decide)
  have hLs : L = keptL l ++ [⟨65535, 65535, 0, 1⟩] := by
   rw [htail];split
   · rfl
   rename_i hq
   rw [if_neg hq, List.append_nil] at htail;rw [htail] at hlt;exact absurd hlt (by omega)
  rw [if_pos hlt, if_pos hkl, ← hLs];exact hj0
 have hLs : L = keptL l := by
  by_cases hq : (keptL l).length = 0 ∨ (atS (keptL l) ((keptL l).length - 1)).f1 < 65535
  ·
   rw [if_pos hq] at htail;have : L.length = (keptL l).length + 1 := by rw [htail, List.length_append]; rfl
   omega
  rw [if_neg hq, List.append_nil] at htail;exact htail
 rw [if_neg hlt, ← hLs];exact hj0
end Go.Proofs.YtejdflndgnpkcaaGreat.P
end
