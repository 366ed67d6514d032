/- Words, contracts and plain facts of the proof. Each says its own condition. -/
import Derived.Test.YtejdflndgnpkcaaGreatZCmapDoesz
import Derived.Test.YtejdflndgnpkcaaGreatZCmapDoesaa
import Derived.Test.YtejdflndgnpkcaaGreatZCmapDoese
import Derived.Test.YtejdflndgnpkcaaGreatZCmapDoesq
set_option linter.unusedVariables false
set_option maxRecDepth 100000
set_option linter.unusedSimpArgs false
set_option maxHeartbeats 16000000
section
namespace Go.Proofs.YtejdflndgnpkcaaGreat.P
open Go.RowKit PW PL PM
def l1F (t : ByteArray) (n : Nat) : List Int := wordsL t 14 n
def l2F (t : ByteArray) (n : Nat) : List Int := wordsL t (16 + 2 * n) n
def l3F (t : ByteArray) (n : Nat) : List Int := wordsL t (16 + 4 * n) n
def l4F (t : ByteArray) (n : Nat) : List Int := wordsL t (16 + 6 * n) n
theorem l1_at (t : ByteArray) {n i : Nat} (h : i < n) : rd (l1F t n) (i : Int) = toF t i := wordsL_at t 14 n i h
theorem l2_at (t : ByteArray) {n i : Nat} (h : i < n) : rd (l2F t n) (i : Int) = fromF t n i := wordsL_at t _ n i h
theorem l3_at (t : ByteArray) {n i : Nat} (h : i < n) : rd (l3F t n) (i : Int) = delF t n i := wordsL_at t _ n i h
theorem l4_at (t : ByteArray) {n i : Nat} (h : i < n) : rd (l4F t n) (i : Int) = offF t n i := wordsL_at t _ n i h
def rightFrom (t : ByteArray) (n i : Nat) : Bool := ((List.range n).drop i).all (rightAt t n) && decide (lastF t n = 65535)
theorem rightFrom_step (t : ByteArray) (n i : Nat) (h : i < n) : rightFrom t n i = (rightAt t n i && rightFrom t n (i + 1)) := by
 unfold rightFrom;have hl : i < (List.range n).length := by rw [List.length_range]; exact h
 rw [List.drop_eq_getElem_cons hl, List.all_cons, List.getElem_range, Bool.and_assoc]
theorem right_loop (t : ByteArray) (n : Nat) (hn : n ≤ 65535) (d : Nat) : ∀ k i, n - i = d → i ≤ n → d + 1 ≤ k → segment_table_right.l0 k (lastF t i) (l1F t n) (n : Int) (i : Int) t (l1F t n) (l2F t n) (l3F t n) (l4F t n) = some (rightFrom t n i) := by
 induction d with
 | zero =>
  intro k i hd hi hk;obtain ⟨k, rfl⟩ : ∃ k', k = k' + 1 := ⟨k - 1, by omega⟩;have hin : i = n := by omega
  subst hin;simp only [segment_table_right.l0];rw [if_neg (by omega)];unfold rightFrom;rw [List.drop_of_length_le (by rw [List.length_range]; exact Nat.le_refl _), List.all_nil, Bool.true_and];rfl
 | succ d ih =>
  intro k i hd hi hk;obtain ⟨k, rfl⟩ : ∃ k', k = k' + 1 := ⟨k - 1, by omega⟩;have hin : i < n := by omega
  have e1 : (l1F t n).length = n := wordsL_length _ _ _;have e2 : (l2F t n).length = n := wordsL_length _ _ _;have e4 : (l4F t n).length = n := wordsL_length _ _ _;have hw : wrap64 ((i : Int) + 1) = ((i + 1 : Nat) : Int) := by unfold wrap64; omega
  have hb := w2_bd t (16 + 6 * n + 2 * i);have hm : (offF t n i).tmod 2 = offF t n i % 2 := Int.tmod_eq_emod_of_nonneg hb.1;simp only [segment_table_right.l0];rw [if_pos (by omega), if_pos (by omega), e1, if_pos (by omega), e2, if_pos (by omega), l1_at t hin, l2_at t hin, l4_at t hin, e4, hm, hw, rightFrom_step t n i hin];have hr : lastF t (i + 1) = toF t i := rfl;by_cases c1 : fromF t n i > toF t i
  ·
   rw [if_pos c1];unfold rightAt;rw [decide_eq_false (show ¬ fromF t n i ≤ toF t i by omega)];rfl
  rw [if_neg c1];by_cases c2 : fromF t n i ≤ lastF t i
  ·
   rw [if_pos c2];unfold rightAt;rw [decide_eq_false (show ¬ lastF t i < fromF t n i by omega), Bool.false_and, Bool.and_false, Bool.false_and]
  rw [if_neg c2, if_pos (by omega)];by_cases c3 : offF t n i % 2 = 0
  ·
   rw [if_pos c3, ← hr, ih k (i + 1) (by omega) (by omega) (by omega)];unfold rightAt;rw [decide_eq_true (show fromF t n i ≤ toF t i by omega), decide_eq_true (show lastF t i < fromF t n i by omega), decide_eq_true c3];rfl
  rw [if_neg c3];unfold rightAt;rw [decide_eq_false c3, Bool.and_false, Bool.and_false, Bool.false_and]
theorem right_told (t : ByteArray) (n : Nat) (hn : n ≤ 65535) : segment_table_right.f (n + 1) t (l1F t n) (l2F t n) (l3F t n) (l4F t n) = some (rightF t n) := by
 have h := right_loop t n hn n (n + 1) 0 (by omega) (by omega) (by omega);have e1 : (l1F t n).length = n := wordsL_length _ _ _;unfold segment_table_right.f;rw [e1];exact h
theorem far_snoc (t : ByteArray) (a d : Int) (base j : Nat) : farF t a d base (j + 1) = farF t a d base j ++ (if glyF (w2 t (base + 2 * j)) d = 0 then [] else [⟨a + (j : Int), a + (j : Int), glyF (w2 t (base + 2 * j)) d, 1⟩]) := by
 unfold farF;rw [List.range_succ, List.map_append, List.map_singleton, spans_snoc];simp
theorem far_neg {base j m s : Nat} (h : ¬ base + 2 * j + 2 * 1 ≤ s) (hj : j < m) : ¬ base + 2 * m ≤ s := by omega
theorem far_pos {base j s : Nat} (h : base + 2 * j + 2 * 1 ≤ s) : base + 2 * (j + 1) ≤ s := by omega
theorem far_loop (t : ByteArray) (n i : Nat) (hn : n ≤ 65535) (hi : i < n) (a b dl o : Int) (ha : a = fromF t n i) (hb : b = toF t i) (hdl : dl = delF t n i) (ho : o = offF t n i) (hab : a ≤ b) (m base : Nat) (hm : (m : Int) = b - a + 1) (hbase : (base : Int) = 16 + 6 * (n : Int) + 2 * (i : Int) + o) (d : Nat) : ∀ k j, m - j = d → j ≤ m → (j = 0 ∨ base + 2 * j ≤ t.size) → d + 1 ≤ k →
  segment_table_far.l0 k (i : Int) (farF t a dl base j) (16 + 6 * (n : Int) + 2 * (i : Int)) (a + (j : Int)) t (l1F t n) (l2F t n) (l3F t n) (l4F t n) = some (if base + 2 * m ≤ t.size then (farF t a dl base m, 0) else ([], 4)) := by
 have e1 : (l1F t n).length = n := wordsL_length _ _ _;have e2 : (l2F t n).length = n := wordsL_length _ _ _;have e3 : (l3F t n).length = n := wordsL_length _ _ _;have e4 : (l4F t n).length = n := wordsL_length _ _ _;have ba := w2_bd t (16 + 2 * n + 2 * i);have bb := w2_bd t (14 + 2 * i);have bd := w2_bd t (16 + 4 * n + 2 * i);have bo := w2_bd t (16 + 6 * n + 2 * i);have ba' : 0 ≤ a ∧ a ≤ 65535 := by rw [ha]; exact ba
 have bb' : 0 ≤ b ∧ b ≤ 65535 := by rw [hb]; exact bb
 have bd' : 0 ≤ dl ∧ dl ≤ 65535 := by rw [hdl]; exact bd
 have bo' : 0 ≤ o ∧ o ≤ 65535 := by rw [ho]; exact bo
 clear ba bb bd bo;induction d with
 | zero =>
  intro k j hd hj hs hk;obtain ⟨k, rfl⟩ : ∃ k', k = k' + 1 := ⟨k - 1, by omega⟩;have hjm : j = m := by omega
  subst hjm;simp only [segment_table_far.l0];rw [if_pos (by omega), e1, if_pos (by omega), l1_at t hi, ← hb, if_neg (by omega), if_pos (by omega)]
 | succ d ih =>
  intro k j hd hj hs hk;obtain ⟨k, rfl⟩ : ∃ k', k = k' + 1 := ⟨k - 1, by omega⟩;have hjm : j < m := by omega
  have hw1 : wrap64 (a + (j : Int) - a) = (j : Int) := by unfold wrap64; omega
  have hw2 : wrap64 (2 * (j : Int)) = 2 * (j : Int) := by unfold wrap64; omega
  have hw3 : wrap64 (16 + 6 * (n : Int) + 2 * (i : Int) + o) = (base : Int) := by unfold wrap64; omega
  have hw4 : wrap64 ((base : Int) + 2 * (j : Int)) = ((base + 2 * j : Nat) : Int) := by unfold wrap64; omega
  have hw5 : wrap64 (a + (j : Int) + 1) = a + ((j + 1 : Nat) : Int) := by unfold wrap64; omega
  have hword := words_told t (base + 2 * j) 1 (by decide);simp only [segment_table_far.l0];rw [if_pos (by omega), e1, if_pos (by omega), l1_at t hi, ← hb, if_pos (by omega), e4, if_pos (by omega), e2, if_pos (by omega), l4_at t hi, ← ho, l2_at t hi, ← ha, hw1, hw2, hw3, hw4];rw [show ((1 : Nat) : Int) = 1 from rfl] at hword;rw [hword, Option.bind_some];by_cases hsz : base + 2 * j + 2 * 1 ≤ t.size
  ·
   rw [if_pos hsz];have hl : (wordsL t (base + 2 * j) 1).length = 1 := wordsL_length _ _ _;have hv : rd (wordsL t (base + 2 * j) 1) 0 = w2 t (base + 2 * j) := wordsL_at t (base + 2 * j) 1 0 (by decide);have hvb := w2_bd t (base + 2 * j);obtain ⟨v, hvv⟩ : ∃ v, v = w2 t (base + 2 * j) := ⟨_, rfl⟩;rw [← hvv] at hv hvb;have hw6 : wrap64 (v + dl) = v + dl := by unfold wrap64; omega
   have hm6 : (v + dl).tmod 65536 = (v + dl) % 65536 := Int.tmod_eq_emod_of_nonneg (by omega);have hsn := far_snoc t a dl base j;rw [← hvv] at hsn;have hih := ih k (j + 1) (by omega) (by omega) (.inr (far_pos hsz)) (by omega);show (if (0 : Int) = 0 then (if (0 : Int) < ((wordsL t (base + 2 * j) 1).length : Int) then _ else none) else _) = _
   rw [if_pos rfl, hl, if_pos (by decide), e3, if_pos (by omega), hv, l3_at t hi, ← hdl, hw6, hm6, hw5];by_cases hv0 : v = 0
   ·
    rw [if_pos hv0];have hg : glyF v dl = 0 := by unfold glyF; rw [if_pos hv0]
    rw [hg, if_pos rfl, List.append_nil] at hsn;rw [← hsn]; exact hih
   rw [if_neg hv0];have hg : glyF v dl = (v + dl) % 65536 := by unfold glyF; rw [if_neg hv0]
   by_cases hg0 : (v + dl) % 65536 = 0
   ·
    rw [if_pos hg0];rw [hg, if_pos hg0, List.append_nil] at hsn;rw [← hsn]; exact hih
   rw [if_neg hg0];rw [hg, if_neg hg0] at hsn
   have hlen : (farF t a dl base j).length ≤ j := by
    unfold farF;have := spans_len a ((List.range j).map (fun k => glyF (w2 t (base + 2 * k)) dl)) a;simpa using this
   rw [if_pos (by omega), ← hsn];exact hih
  rw [if_neg hsz, if_neg (far_neg hsz hjm)];rfl
theorem far_told (t : ByteArray) (n i : Nat) (hn : n ≤ 65535) (hi : i < n) (hab : fromF t n i ≤ toF t i) (ho : offF t n i ≠ 0) (K : Nat) (hK : 65537 ≤ K) : segment_table_far.f K t (l1F t n) (l2F t n) (l3F t n) (l4F t n) (i : Int) = some (match segAt t n i with
  | none => ([], 4)
  | some l => (l, 0)) := by
 have ba : 0 ≤ fromF t n i ∧ fromF t n i ≤ 65535 := w2_bd t (16 + 2 * n + 2 * i);have bb : 0 ≤ toF t i ∧ toF t i ≤ 65535 := w2_bd t (14 + 2 * i);have bo : 0 ≤ offF t n i ∧ offF t n i ≤ 65535 := w2_bd t (16 + 6 * n + 2 * i);have hw1 : wrap64 (3 * (n : Int)) = 3 * (n : Int) := by unfold wrap64; omega
 have hw2 : wrap64 (3 * (n : Int) + (i : Int)) = 3 * (n : Int) + (i : Int) := by unfold wrap64; omega
 have hw3 : wrap64 (2 * (3 * (n : Int) + (i : Int))) = 6 * (n : Int) + 2 * (i : Int) := by unfold wrap64; omega
 have hw4 : wrap64 (16 + (6 * (n : Int) + 2 * (i : Int))) = 16 + 6 * (n : Int) + 2 * (i : Int) := by unfold wrap64; omega
 obtain ⟨m, hm⟩ : ∃ m, m = (toF t i - fromF t n i + 1).toNat := ⟨_, rfl⟩;obtain ⟨base, hbase⟩ : ∃ base, base = 16 + 6 * n + 2 * i + (offF t n i).toNat := ⟨_, rfl⟩;have hmi : (m : Int) = toF t i - fromF t n i + 1 := by omega
 have hbi : (base : Int) = 16 + 6 * (n : Int) + 2 * (i : Int) + offF t n i := by omega
 have hmk : m + 1 ≤ K := by omega
 have e1 : (l1F t n).length = n := wordsL_length _ _ _;have e2 : (l2F t n).length = n := wordsL_length _ _ _;have hz : fromF t n i + ((0 : Nat) : Int) = fromF t n i := by omega
 have p1 : 0 ≤ (i : Int) := by omega
 have p2 : (i : Int) < (n : Int) := by omega
 clear hK;have h := far_loop t n i hn hi _ _ _ _ rfl rfl rfl rfl hab m base hmi hbi m K 0 (Nat.sub_zero _) (Nat.zero_le _) (.inl rfl) hmk;have hnil : farF t (fromF t n i) (delF t n i) base 0 = [] := rfl;rw [hz, hnil] at h;unfold segment_table_far.f;rw [e1, e2, if_pos p1, if_pos p2, l2_at t hi, hw1, hw2, hw3, hw4, h];unfold segAt segF;rw [if_neg ho, ← hm, ← hbase];split <;> rfl
def orMore : Option (List S61) → List S61 × Int
 | none => ([], 4)
 | some l => (l, 0)
theorem segs_none (t : ByteArray) (n : Nat) : ∀ (d i : Nat), segsF t n i = none → segsF t n (i + d) = none
 | 0, i, h => h
 | d + 1, i, h => by
  have := segs_none t n d i h;show (segsF t n (i + d)).bind _ = none
  rw [this]; rfl
theorem segs_len {t : ByteArray} {n i : Nat} {l : List S61} (hr : rightF t n = true) (hi : i ≤ n) (h : segsF t n i = some l) : l.length ≤ 65536 := by
 unfold rightF at hr;obtain ⟨r1, _⟩ := Bool.and_eq_true_iff.1 hr;have r2 := List.all_eq_true.1 r1;obtain ⟨q1, q2⟩ := segsF_ok i (fun j hj => r2 j (List.mem_range.2 (by omega))) h;have hb := lastF_bd t i;have := ord_len l 0 65535 (fun y hy => ⟨(q1 y hy).1, ((right_iff y).1 (q1 y hy).1).1, by have := (q1 y hy).2; omega⟩) q2 (by decide);omega
theorem right_at {t : ByteArray} {n i : Nat} (hr : rightF t n = true) (hi : i < n) : fromF t n i ≤ toF t i := by
 unfold rightF at hr;obtain ⟨r1, _⟩ := Bool.and_eq_true_iff.1 hr;have := List.all_eq_true.1 r1 i (List.mem_range.2 hi);unfold rightAt at this;exact of_decide_eq_true (Bool.and_eq_true_iff.1 this).1
theorem cnt_bd (s : ByteArray) : cntF s ≤ 32767 := by
 have := w2_bd s 6;unfold cntF; omega
theorem segF_len {t : ByteArray} {n i : Nat} {l : List S61} (hr : rightF t n = true) (hi : i < n) (h : segAt t n i = some l) : l.length ≤ 65536 := by
 have ha := right_at hr hi;have hf : 0 ≤ fromF t n i := (w2_bd t _).1;have ht : toF t i ≤ 65535 := (w2_bd t _).2;obtain ⟨s1, s2⟩ := segF_ok hf ha ht h;have := ord_len l 0 65535 (fun y hy => ⟨(s1 y hy).1, by have := (s1 y hy).2.1; omega, by have := (s1 y hy).2.2; omega⟩) s2 (by decide);omega
theorem rows_bytes {n m : Nat} (h : n ≤ 65536) (h2 : m ≤ 65536) : (n + m) * 32 ≤ 140737488355328 := by omega
theorem tright_calls (t : ByteArray) (n : Nat) (hn : n ≤ 32767) (A1 A2 A3 A4 : Option Addr) (W : World) (C1 : Kd.C (Kd.int .i64) W A1 n (l1F t n)) (C2 : Kd.C (Kd.int .i64) W A2 n (l2F t n)) (C3 : Kd.C (Kd.int .i64) W A3 n (l3F t n)) (C4 : Kd.C (Kd.int .i64) W A4 n (l4F t n)) :
  Calls Tryz.prog 80 #[.agg #[.string t, .slice A1 n n, .slice A2 n n, .slice A3 n n, .slice A4 n n]] W fun e w' => e = .returned (.bool (rightF t n)) ∧ Below W.heap.size W w' := by
 have e1 : (l1F t n).length = n := wordsL_length _ _ _;have e2 : (l2F t n).length = n := wordsL_length _ _ _;have e3 : (l3F t n).length = n := wordsL_length _ _ _;have e4 : (l4F t n).length = n := wordsL_length _ _ _;have h := segment_table_right.calls (n + 1) t A1 n (l1F t n) A2 n (l2F t n) A3 n (l3F t n) A4 n (l4F t n) (rightF t n) W (by rw [e1]; exact C1) (by rw [e1]; exact Nat.le_refl _) (by rw [e2]; exact C2) (by rw [e2]; exact Nat.le_refl _) (by rw [e3]; exact C3) (by rw [e3]; exact Nat.le_refl _) (by rw [e4]; exact C4) (by rw [e4]; exact Nat.le_refl _) (right_told t n (by omega));rw [e1, e2, e3, e4] at h;exact h
theorem tfar_calls (t : ByteArray) (n i : Nat) (hn : n ≤ 32767) (hi : i < n) (hab : fromF t n i ≤ toF t i) (ho : offF t n i ≠ 0) (A1 A2 A3 A4 : Option Addr) (W : World) (C1 : Kd.C (Kd.int .i64) W A1 n (l1F t n)) (C2 : Kd.C (Kd.int .i64) W A2 n (l2F t n)) (C3 : Kd.C (Kd.int .i64) W A3 n (l3F t n)) (C4 : Kd.C (Kd.int .i64) W A4 n (l4F t n))
  (r : List S61) (q : Int) (hr : orMore (segAt t n i) = (r, q)) :
  Calls Tryz.prog 82 #[.agg #[.string t, .slice A1 n n, .slice A2 n n, .slice A3 n n, .slice A4 n n], .int .i64 (i : Int)] W fun e w' => ∃ v0_ : Value, e = .returned (.tuple #[v0_, .int .i64 q]) ∧ Kd.R k61 61 w' W.heap.size (fun _ => True) v0_ r ∧ Below W.heap.size W w' := by
 have e1 : (l1F t n).length = n := wordsL_length _ _ _;have e2 : (l2F t n).length = n := wordsL_length _ _ _;have e3 : (l3F t n).length = n := wordsL_length _ _ _;have e4 : (l4F t n).length = n := wordsL_length _ _ _;obtain ⟨K, hK⟩ : ∃ K, K = 65537 := ⟨_, rfl⟩
 have hf : segment_table_far.f K t (l1F t n) (l2F t n) (l3F t n) (l4F t n) (i : Int) = some (orMore (segAt t n i)) := by
  rw [far_told t n i (by omega) hi hab ho K (by rw [hK]; exact Nat.le_refl _)];cases segAt t n i <;> rfl
 rw [hr] at hf;have h := segment_table_far.calls K t A1 n (l1F t n) A2 n (l2F t n) A3 n (l3F t n) A4 n (l4F t n) (i : Int) r q W (by rw [e1]; exact C1) (by rw [e1]; exact Nat.le_refl _) (by rw [e2]; exact C2) (by rw [e2]; exact Nat.le_refl _) (by rw [e3]; exact C3) (by rw [e3]; exact Nat.le_refl _) (by rw [e4]; exact C4) (by rw [e4]; exact Nat.le_refl _) hf;rw [e1, e2, e3, e4] at h;exact h
theorem read_err (s : ByteArray) (w : World) (he : headE s ≠ 0) :
  Calls Tryz.prog 79 #[.string s] w fun e w' => e = .returned (.tuple #[noTable, .int .i64 (headE s)]) ∧ Below w.heap.size w w' := by
 by_cases h : s.size < 14
 ·
  have e : headE s = 4 := by unfold headE; rw [if_pos h]
  rw [e]; exact read_more s w h
 exact read_bad s w (by omega) he
theorem read_fine (s : ByteArray) (w : World) (he : headE s = 0) : Calls Tryz.prog 79 #[.string s] w (ReadOk s w) := by
 by_cases h : s.size < 14
 ·
  have e : headE s = 4 := by unfold headE; rw [if_pos h]
  rw [e] at he; exact absurd he (by decide)
 exact read_ok s w (by omega) he
theorem sget_bad (s : ByteArray) (w : World) (he : headE s ≠ 0) :
  Calls Tryz.prog 51 #[.string s] w fun e w' => ∃ v0_ : Value, e = .returned (.tuple #[v0_, .int .i64 (headE s)]) ∧ Kd.R k61 61 w' w.heap.size (fun _ => True) v0_ [] ∧ Below w.heap.size w w' := by
 have hz := (zero_of_info (P := Tryz.prog) (t := 105) (v := noTable) (n := 5) (by kernel_rfl)).1;have HC := hI (read_err s w he);obtain ⟨q, hq⟩ : ∃ q, q = headE s := ⟨_, rfl⟩;rw [← hq] at HC he ⊢;have d1 : (q != 0) = true := by simpa using he
 clear hq he;unfold noTable at hz HC;go_enter Tryz.func51, Tryz.ntmps51;go_wp2_with fail
 refine HC.out.mono ?_;rintro e w1 ⟨rfl, hb⟩;have HB := hI hb;clear hb;go_wp2;go_ret2;exact ⟨_, rfl, Kd.R_nil _ _ _ _ _, HB.out.alloc HB.out.size _⟩
theorem sget_ok (s : ByteArray) (w : World) (he : headE s = 0) (r : List S61 × Int) (hr : getS s = r) :
  Calls Tryz.prog 51 #[.string s] w fun e w' => ∃ v0_ : Value, e = .returned (.tuple #[v0_, .int .i64 r.2]) ∧ Kd.R k61 61 w' w.heap.size (fun _ => True) v0_ r.1 ∧ Below w.heap.size w w' := by
 have hz := (zero_of_info (P := Tryz.prog) (t := 105) (v := noTable) (n := 5) (by kernel_rfl)).1;unfold noTable at hz;have HC := hI (read_fine s w he);rw [getS_head, if_neg (by rw [he]; decide)] at hr;obtain ⟨t, ht⟩ : ∃ t, t = bodyF s := ⟨_, rfl⟩;obtain ⟨n, hn⟩ : ∃ n, n = cntF s := ⟨_, rfl⟩;have hcn : n ≤ 32767 := by rw [hn]; exact cnt_bd s
 unfold ReadOk tableV at HC;rw [← ht, ← hn] at HC hr
 have hn0 : 0 < n := by
  have := w2_bd s 6;unfold headE at he;split at he
  · exact absurd he (by decide)
  split at he
  · exact absurd he (by decide)
  rename_i h0
  rw [hn]; unfold cntF; omega
 have HR := hI hr;have HN := hI hcn;have HN0 := hI hn0;clear he hr ht hn hcn hn0;go_enter Tryz.func51, Tryz.ntmps51;go_wp2_with fail
 refine HC.out.mono ?_;rintro e w1 ⟨A1, A2, A3, A4, rfl, hb, C1, C2, C3, C4⟩;obtain ⟨a1, rfl, -⟩ := C1.2.2 HN0.out;obtain ⟨a2, rfl, -⟩ := C2.2.2 HN0.out;obtain ⟨a3, rfl, -⟩ := C3.2.2 HN0.out;obtain ⟨a4, rfl, -⟩ := C4.2.2 HN0.out;obtain ⟨w2, hw2⟩ : ∃ w2, w2 = w1.alloc (.cells #[.string t, .slice (some a1) n n, .slice (some a2) n n, .slice (some a3) n n, .slice (some a4) n n] 105) := ⟨_, rfl⟩;obtain ⟨g, hg⟩ : ∃ g, g = w1.heap.size := ⟨_, rfl⟩;have hbw : Below w1.heap.size w1 w2 := by rw [hw2]; exact (Below.refl _ w1).alloc (Nat.le_refl _) _
 have HBW := hI (hb.trans (hbw.mono hb.size));have HG := hI (show w2.heap[g]? = some (.cells #[.string t, .slice (some a1) n n, .slice (some a2) n n, .slice (some a3) n n, .slice (some a4) n n] 105 (0, 0)) by rw [hw2, hg]; exact World.alloc_heap_new w1 _);have D1 := hI (show Kd.C (Kd.int .i64) w2 (some a1) n (l1F t n) from Kd.C_below C1 hbw);have D2 := hI (show Kd.C (Kd.int .i64) w2 (some a2) n (l2F t n) from Kd.C_below C2 hbw);have D3 := hI (show Kd.C (Kd.int .i64) w2 (some a3) n (l3F t n) from Kd.C_below C3 hbw);have D4 := hI (show Kd.C (Kd.int .i64) w2 (some a4) n (l4F t n) from Kd.C_below C4 hbw);obtain ⟨c0, c1, c2, c3, c4⟩ := cells5 HG.out;clear hb hbw C1 C2 C3 C4;go_wp2_with fail
 rw [← hw2];rw [← hg];clear hw2 hg;refine (tright_calls t n HN.out _ _ _ _ w2 D1.out D2.out D3.out D4.out).mono ?_;rintro e w3 ⟨rfl, hb3⟩;have HB3 := hI hb3;have HG3 := hI ((hb3.block g (blk_lt HG.out)).trans HG.out);have E1 := hI (Kd.C_below D1.out hb3);have E2 := hI (Kd.C_below D2.out hb3);have E3 := hI (Kd.C_below D3.out hb3);have E4 := hI (Kd.C_below D4.out hb3);have HB0 := hI (HBW.out.trans (hb3.mono HBW.out.size));clear hb3 c0 c1 c2 c3 c4 D1 D2 D3 D4;cases hrt : rightF t n with
 | false =>
  have HRE := hI (show r = ([], 5) by rw [← HR.out, hrt, if_pos rfl]);clear hrt;go_wp2;go_ret2;rw [HRE.out];exact ⟨_, rfl, Kd.R_nil _ _ _ _ _, HB0.out⟩
 | true =>
  have HRT := hI hrt
  have HRE := hI (show orMore (segsF t n n) = r by
   rw [← HR.out, hrt, if_neg (by decide)];cases segsF t n n <;> rfl)
  clear hrt;obtain ⟨c0, c1, c2, c3, c4⟩ := cells5 HG3.out;have HG4 := hI (show g < w3.heap.size from blk_lt HG3.out);go_wp2_with fail
  clear c0 c1 c2 c3 c4;go_loopw [6, 24] (fun v6 v24 wr => ∃ (i : Nat) (xs : List S61), i ≤ n ∧ v24 = .int .i64 (i : Int) ∧ Aside0 (segsF t n i = some xs) ∧ Aside0 (Kd.R k61 61 wr w3.heap.size (fun _ => True) v6 xs) ∧ Aside0 (Below w3.heap.size w3 wr)) (fun _ v24 _ => n - (intOf v24).toNat)
  case atStart => exact ⟨0, [], Nat.zero_le _, rfl, ⟨rfl⟩, ⟨Kd.R_nil _ _ _ _ _⟩, ⟨Below.refl _ _⟩⟩
  case round =>
   obtain ⟨i, xs, hi, rfl, HXS, HV, HBR⟩ := hrel;obtain ⟨Av, kv, rfl⟩ := Kd.R_slice HV.out;by_cases hlt : i < n
   ·
    have p0 : (0 : Int) ≤ (i : Int) := by omega
    have p1 : (i : Int) < (n : Int) := by omega
    have d3 : decide ((i : Int) < (n : Int)) = true := decide_eq_true p1;have hwi : wrap64 ((i : Int) + 1) = ((i + 1 : Nat) : Int) := by have := HN.out; unfold wrap64; omega
    obtain ⟨b1, e1, x1⟩ := Kd.at_int E1.out (i : Int) p0 p1;obtain ⟨b2, e2, x2⟩ := Kd.at_int E2.out (i : Int) p0 p1;obtain ⟨b3, e3, x3⟩ := Kd.at_int E3.out (i : Int) p0 p1;obtain ⟨b4, e4, x4⟩ := Kd.at_int E4.out (i : Int) p0 p1;cases e1
    cases e2
    cases e3
    cases e4
    rw [l1_at t hlt, Int.toNat_natCast] at x1;rw [l2_at t hlt, Int.toNat_natCast] at x2;rw [l3_at t hlt, Int.toNat_natCast] at x3;rw [l4_at t hlt, Int.toNat_natCast] at x4;have X1 := hI x1;have X2 := hI x2;have X3 := hI x3;have X4 := hI x4;have HLT := hI hlt;have hab := right_at HRT.out hlt;have HAB := hI hab;have y4 := (HBR.out.cell (World.block_lt_of_cell? _ _ x4)).trans x4;obtain ⟨o, ho⟩ : ∃ o, o = offF t n i := ⟨_, rfl⟩;rw [← ho] at y4;have HO := hI ho;have hgr := (HBR.out.block g HG4.out).trans HG3.out;obtain ⟨c0, c1, c2, c3, c4⟩ := cells5 hgr;clear hlt hi hab x1 x2 x3 x4 ho hgr;replace p0 := eq_true p0;replace p1 := eq_true p1;by_cases ho0 : o = 0
    ·
     have d4 : (o == 0) = true := by simpa using ho0
     have HSEG := hI (show segsF t n (i + 1) = some (xs ++ nearF (fromF t n i) (toF t i) (delF t n i)) by
      have h1 : segAt t n i = some (nearF (fromF t n i) (toF t i) (delF t n i)) := by unfold segAt segF; rw [← HO.out, if_pos ho0]
      show (segsF t n i).bind _ = _
      rw [HXS.out, Option.bind_some, h1]; rfl)
     clear ho0;go_wp2_with fail
     refine wp_mono (Q := Exit.then ?_ (fun _ _ _ => False)) ?_ ?_;rotate_left 2
     ·
      intro e a w h;cases e with
      | normal => exact h
      | _ => exact (show False from h).elim
     clear c0 c1 c2 c3 c4 y4;refine bg_ 19 (fun u => Below w3.heap.size w3 u) (below_drew1 HBR.out) (fun hHeld => ?_);have HV2 := hI (Kd.R_drew HV.out);obtain ⟨wd, hwd⟩ : ∃ wd, wd = wr.drew := ⟨_, rfl⟩;rw [← hwd] at hHeld HV2 ⊢;clear hwd;obtain ⟨fa, hfa⟩ : ∃ fa, fa = fromF t n i := ⟨_, rfl⟩;obtain ⟨fb, hfb⟩ : ∃ fb, fb = toF t i := ⟨_, rfl⟩;obtain ⟨fd, hfd⟩ : ∃ fd, fd = delF t n i := ⟨_, rfl⟩;rw [← hfb] at X1;rw [← hfa] at X2;rw [← hfd] at X3;have HFB := hI (show (0 ≤ fa ∧ fa ≤ fb ∧ fb ≤ 65535) ∧ 0 ≤ fd ∧ fd ≤ 65535 from by rw [hfa, hfb, hfd]; exact ⟨⟨(w2_bd t _).1, HAB.out, (w2_bd t _).2⟩, w2_bd t _⟩);rw [← hfa, ← hfb, ← hfd] at HSEG;clear hfa hfb hfd;refine pS_ 0 33 ?_;refine pS_ 1 34 ?_;refine pS_ 3 36 ?_;refine pS_ 6 39 ?_;refine pS_ 8 41 ?_;refine pS_ 11 44 ?_;refine pS_ 13 46 ?_;refine take_ (i := 2) (N := some 35) (v := ?_) (a' := ?_) #[true, true, true, true, false, false, true, false, true, false, false, true, false, true, false, false, false, false, false] rfl rfl (by kernel_rfl) (fun _ _ _ h => h) (Or.inl ⟨by rfl, ?_⟩) hHeld ?_ ?_;rotate_left
     ·
      rintro w' s0;have hgq := (s0.block g HG4.out).trans HG3.out;obtain ⟨q0, q1, q2, q3, q4⟩ := cells5 hgq;have z1 := (s0.cell (World.block_lt_of_cell? _ _ X1.out)).trans X1.out;have z2 := (s0.cell (World.block_lt_of_cell? _ _ X2.out)).trans X2.out;have z3 := (s0.cell (World.block_lt_of_cell? _ _ X3.out)).trans X3.out;clear hgq;go_simp
      with_reducible rfl
     rotate_left
     ·
      simp only [Act.put, List.setIfInBounds_toArray, List.set_cons_zero, List.set_cons_succ, i64_w, i32_w];rfl
     refine take_ (i := 7) (N := some 40) (v := ?_) (a' := ?_) #[true, true, true, true, false, false, true, true, true, false, false, true, false, true, false, false, false, false, false] rfl rfl (by kernel_rfl) (fun _ _ _ h => h) (Or.inl ⟨by rfl, ?_⟩) hHeld ?_ ?_;rotate_left
     ·
      rintro w' s0;have hgq := (s0.block g HG4.out).trans HG3.out;obtain ⟨q0, q1, q2, q3, q4⟩ := cells5 hgq;have z1 := (s0.cell (World.block_lt_of_cell? _ _ X1.out)).trans X1.out;have z2 := (s0.cell (World.block_lt_of_cell? _ _ X2.out)).trans X2.out;have z3 := (s0.cell (World.block_lt_of_cell? _ _ X3.out)).trans X3.out;clear hgq;go_simp
      with_reducible rfl
     rotate_left
     ·
      simp only [Act.put, List.setIfInBounds_toArray, List.set_cons_zero, List.set_cons_succ, i64_w, i32_w];rfl
     refine take_ (i := 12) (N := some 45) (v := ?_) (a' := ?_) #[true, true, true, true, false, false, true, true, true, false, false, true, true, true, false, false, false, false, false] rfl rfl (by kernel_rfl) (fun _ _ _ h => h) (Or.inl ⟨by rfl, ?_⟩) hHeld ?_ ?_;rotate_left
     ·
      rintro w' s0;have hgq := (s0.block g HG4.out).trans HG3.out;obtain ⟨q0, q1, q2, q3, q4⟩ := cells5 hgq;have z1 := (s0.cell (World.block_lt_of_cell? _ _ X1.out)).trans X1.out;have z2 := (s0.cell (World.block_lt_of_cell? _ _ X2.out)).trans X2.out;have z3 := (s0.cell (World.block_lt_of_cell? _ _ X3.out)).trans X3.out;clear hgq;go_simp
      with_reducible rfl
     rotate_left
     ·
      simp only [Act.put, List.setIfInBounds_toArray, List.set_cons_zero, List.set_cons_succ, i64_w, i32_w];rfl
     refine pS_ 4 37 ?_;refine pS_ 9 42 ?_;refine pS_ 14 47 ?_;refine take_ (i := 5) (N := some 38) (v := ?_) (a' := ?_) #[true, true, true, true, true, true, true, true, true, true, false, true, true, true, true, false, false, false, false] rfl rfl (by kernel_rfl) (fun _ _ _ h => h) (Or.inl ⟨by rfl, ?_⟩) hHeld ?_ ?_;rotate_left
     ·
      rintro w' s0;have hgq := (s0.block g HG4.out).trans HG3.out;obtain ⟨q0, q1, q2, q3, q4⟩ := cells5 hgq;have z1 := (s0.cell (World.block_lt_of_cell? _ _ X1.out)).trans X1.out;have z2 := (s0.cell (World.block_lt_of_cell? _ _ X2.out)).trans X2.out;have z3 := (s0.cell (World.block_lt_of_cell? _ _ X3.out)).trans X3.out;clear hgq;go_simp
      with_reducible rfl
     rotate_left
     ·
      simp only [Act.put, List.setIfInBounds_toArray, List.set_cons_zero, List.set_cons_succ, i64_w, i32_w];rfl
     refine take_ (i := 10) (N := some 43) (v := ?_) (a' := ?_) #[true, true, true, true, true, true, true, true, true, true, true, true, true, true, true, false, false, false, false] rfl rfl (by kernel_rfl) (fun _ _ _ h => h) (Or.inl ⟨by rfl, ?_⟩) hHeld ?_ ?_;rotate_left
     ·
      rintro w' s0;have hgq := (s0.block g HG4.out).trans HG3.out;obtain ⟨q0, q1, q2, q3, q4⟩ := cells5 hgq;have z1 := (s0.cell (World.block_lt_of_cell? _ _ X1.out)).trans X1.out;have z2 := (s0.cell (World.block_lt_of_cell? _ _ X2.out)).trans X2.out;have z3 := (s0.cell (World.block_lt_of_cell? _ _ X3.out)).trans X3.out;clear hgq;go_simp
      with_reducible rfl
     rotate_left
     ·
      simp only [Act.put, List.setIfInBounds_toArray, List.set_cons_zero, List.set_cons_succ, i64_w, i32_w];rfl
     refine take_ (i := 15) (N := some 48) (v := ?_) (a' := ?_) #[true, true, true, true, true, true, true, true, true, true, true, true, true, true, true, true, false, false, false] rfl rfl (by kernel_rfl) (fun _ _ _ h => h) (Or.inl ⟨by rfl, ?_⟩) hHeld ?_ ?_;rotate_left
     ·
      rintro w' s0;have hgq := (s0.block g HG4.out).trans HG3.out;obtain ⟨q0, q1, q2, q3, q4⟩ := cells5 hgq;have z1 := (s0.cell (World.block_lt_of_cell? _ _ X1.out)).trans X1.out;have z2 := (s0.cell (World.block_lt_of_cell? _ _ X2.out)).trans X2.out;have z3 := (s0.cell (World.block_lt_of_cell? _ _ X3.out)).trans X3.out;clear hgq;go_simp
      with_reducible rfl
     rotate_left
     ·
      simp only [Act.put, List.setIfInBounds_toArray, List.set_cons_zero, List.set_cons_succ, i64_w, i32_w];rfl
     refine oS_ 16 49 (fun K hK => ?_);go_simp
     go_at_call 81
     refine (near_walk fa fb fd _ HFB.out.1.1 HFB.out.1.2.1 HFB.out.1.2.2 HFB.out.2.1 HFB.out.2.2).mono ?_;rintro e wn ⟨vn, rfl, hrn, hbn⟩;obtain ⟨An, kn, rfl⟩ := Kd.R_slice hrn;obtain ⟨_, _, hne, _, hCn⟩ := Kd.R_reads hrn;injection hne with hn1 hn2 hn3
     subst hn1;have HCN := hI hCn;have HV3 := hI (Kd.R_below HV2.out hbn);have hbn2 := below_then hHeld hHeld.size hbn;have HLN := hI (show (nearF fa fb fd).length ≤ 65536 by unfold nearF; split <;> simp);have HLX := hI (segs_len HRT.out (by have := HLT.out; omega) HXS.out);dsimp only
     refine hK.out _ _ hbn2 (fun hHeld2 => ?_);clear hK K hrn hbn hCn hbn2;refine oS_ 17 50 (fun K hK => ?_);refine Kd.R_append_rows_step k61 (w0 := w3) w3.heap.size (by rfl) (.tmp 33) (.tmp 49) 22 61 (.agg #[(.int .i64 0), (.int .i64 0), (.int .i64 0), (.int .i64 0)]) 32 rfl Tryz.underlying22 info61 rfl (by decide) (by decide) _ xs (nearF fa fb fd) _ _ _ (fun _ => True) (fun _ => False) rfl rfl HV3.out HCN.out (fun _ _ h => h) (fun _ h => h.elim) (fun _ _ => trivial) hHeld2 hHeld2.size (rows_bytes HLX.out HLN.out) ?_;intro v1 wa hva hba hga hat;have HVA := hI hva;refine hK.out _ _ hba (fun hHeld3 => ?_);clear hK K hva hba hga hat;refine nS_ ?_;refine pS_ 18 6 ?_;refine dS_ ?_;obtain ⟨A5, k5, rfl⟩ := Kd.R_slice HVA.out;go_wp2;go_roundw
     case rel => exact ⟨i + 1, _, HLT.out, by rw [hwi], ⟨HSEG.out⟩, ⟨by first | exact HVA.out | (rw [← List.length_append]; exact HVA.out)⟩, ⟨hHeld3⟩⟩
     case measure => rw [hwi]; exact less_step (by decide) HLT.out
    have d4 : (o == 0) = false := by simpa using ho0
    obtain ⟨L, q, hLq⟩ : ∃ L q, orMore (segAt t n i) = (L, q) := ⟨_, _, rfl⟩;have HFC := hI (tfar_calls t n i HN.out HLT.out HAB.out (by rw [← HO.out]; exact ho0) (some a1) (some a2) (some a3) (some a4) wr (Kd.C_below E1.out HBR.out) (Kd.C_below E2.out HBR.out) (Kd.C_below E3.out HBR.out) (Kd.C_below E4.out HBR.out) L q hLq);have HLQ := hI hLq;clear ho0 hLq;go_wp2_with fail
    refine HFC.out.mono ?_;rintro e wf ⟨vf, rfl, hrf, hbf⟩;obtain ⟨Af, kf, rfl⟩ := Kd.R_slice hrf;obtain ⟨_, _, hne, _, hCf⟩ := Kd.R_reads hrf;injection hne with hn1 hn2 hn3
    subst hn1;have HCF := hI hCf;have HVF := hI (Kd.R_below HV.out hbf);have HBF := hI (below_then HBR.out HBR.out.size hbf);clear hrf hbf hCf hn2 hn3 c0 c1 c2 c3 c4 y4 HFC;cases hsa : segAt t n i with
    | none =>
     have hq : L = [] ∧ q = 4 := by
      have := HLQ.out;rw [hsa] at this;exact ⟨(Prod.mk.inj this).1.symm, (Prod.mk.inj this).2.symm⟩
     obtain ⟨rfl, rfl⟩ := hq
     have hnone : segsF t n (i + 1) = none := by
      show (segsF t n i).bind _ = _
      rw [HXS.out, Option.bind_some, hsa]; rfl
     have HRR := hI (show r = ([], 4) by
      rw [← HRE.out];have h2 := segs_none t n (n - (i + 1)) (i + 1) hnone;rw [show i + 1 + (n - (i + 1)) = n by have := HLT.out; omega] at h2;rw [h2]; rfl)
     have HBE := hI (HB0.out.trans (HBF.out.mono HB0.out.size));clear hsa hnone;go_wp2;go_ret2;rw [HRR.out];exact ⟨_, rfl, Kd.R_nil _ _ _ _ _, HBE.out⟩
    | some l =>
     have hq : L = l ∧ q = 0 := by
      have := HLQ.out;rw [hsa] at this;exact ⟨(Prod.mk.inj this).1.symm, (Prod.mk.inj this).2.symm⟩
     obtain ⟨rfl, rfl⟩ := hq
     have HSEG := hI (show segsF t n (i + 1) = some (xs ++ L) by
      show (segsF t n i).bind _ = _
      rw [HXS.out, Option.bind_some, hsa]; rfl)
     have HLF := hI (segF_len HRT.out HLT.out hsa);have HLX := hI (segs_len HRT.out (by have := HLT.out; omega) HXS.out);clear hsa;go_wp2_with (first | ((with_reducible refine gate_builtin (b := .append) (xs := #[.tmp 60, .tmp 61]) rfl ?_); at_builtin; refine Kd.R_append_rows k61 (w0 := w3) w3.heap.size rfl (.tmp 60) (.tmp 61) 22 61 (.agg #[(.int .i64 0), (.int .i64 0), (.int .i64 0), (.int .i64 0)]) 32 rfl Tryz.underlying22 info61 rfl (by decide) (by decide) _ xs L _ _ _ (fun _ => True) (fun _ => False) rfl rfl HVF.out HCF.out (fun _ _ h => h) (fun _ h => h.elim) (fun _ _ => trivial) HBF.out HBF.out.size (rows_bytes HLX.out HLF.out) ?_; intro v1 wa hva hba hga hat; have HVA := hI hva; have HBA := hI hba; clear hva hba hga hat))
     obtain ⟨A5, k5, rfl⟩ := Kd.R_slice HVA.out;go_roundw
     case rel => exact ⟨i + 1, _, HLT.out, by rw [hwi], ⟨HSEG.out⟩, ⟨HVA.out⟩, ⟨HBA.out⟩⟩
     case measure => rw [hwi]; exact less_step (by decide) HLT.out
   have hie : i = n := by omega
   subst hie;have d3 : decide ((i : Int) < (i : Int)) = false := decide_eq_false (by omega);have HRR := hI (show r = (xs, 0) by rw [← HRE.out, HXS.out]; rfl);have HVV := hI (Kd.R_lower HV.out HB0.out.size);have HBE := hI (HB0.out.trans (HBR.out.mono HB0.out.size));clear hlt hi;go_wp2;go_ret2;rw [HRR.out];exact ⟨_, rfl, HVV.out, HBE.out⟩
def segment_Get.f (a0 : ByteArray) : Option (List S61 × Int) := some (getS a0)
theorem segment_Get.calls (a0 : ByteArray) (r1 : List S61) (r2 : Int) (w : World) (h : segment_Get.f a0 = some (r1, r2)) :
  Calls Tryz.prog 51 #[.string a0] w fun e w' => ∃ v0_ : Value, e = .returned (.tuple #[v0_, .int .i64 r2]) ∧ Kd.R k61 61 w' w.heap.size (fun _ => True) v0_ r1 ∧ Below w.heap.size w w' := by
 have hr := Option.some.inj h;by_cases he : headE a0 = 0
 · exact sget_ok a0 w he (r1, r2) hr
 have h2 : getS a0 = ([], headE a0) := by rw [getS_head, if_pos he]
 rw [h2] at hr;obtain ⟨rfl, rfl⟩ := Prod.mk.inj hr;exact sget_bad a0 w he
def trimT (s : ByteArray) (n : Int) : List S61 × Int := if s.size < 10 then ([], 4) else if n = 10 + 2 * w2 s 8 then (if (s.size : Int) < n then ([], 4) else if w2 s 6 + w2 s 8 > 65536 then ([], 5) else (spansN (w2 s 6) ((List.range (w2 s 8).toNat).map (fun i => w2 s (10 + 2 * i))), 0)) else ([], 5)
theorem trimT_calls (s : ByteArray) (n : Int) (w : World) (r : List S61 × Int) (hr : trimT s n = r) :
  Calls Tryz.prog 77 #[.string s, .int .i64 n] w fun e w' => ∃ v0_ : Value, e = .returned (.tuple #[v0_, .int .i64 r.2]) ∧ Kd.R k61 61 w' w.heap.size (fun _ => True) v0_ r.1 ∧ Below w.heap.size w w' := by
 obtain ⟨p, hp⟩ : ∃ p, p = w2 s 6 := ⟨_, rfl⟩;obtain ⟨m, hm⟩ := Int.eq_ofNat_of_zero_le (w2_bd s 8).1;have hpb := w2_bd s 6;have hmb := (w2_bd s 8).2;have hg := get_two s 6;unfold trimT at hr;rw [← hp] at hr hg hpb;have e68 : w2 s (6 + 2) = (m : Int) := hm;rw [hm] at hr hmb;rw [e68] at hg;have HP := hI hpb;have HMB := hI (show m ≤ 65535 by omega);have HR := hI hr;have HM := hI hm;have HPP := hI hp;have e1 : wrap64 (2 * (m : Int)) = 2 * (m : Int) := by unfold wrap64; omega
 have e2 : wrap64 (10 + 2 * (m : Int)) = 10 + 2 * (m : Int) := by unfold wrap64; omega
 have e3 : wrap64 (p + (m : Int)) = p + (m : Int) := by unfold wrap64; omega
 clear hp hm hpb hmb hr e68;have C1 := lit_C w [2, 2] (by decide);have hbin := fun X e (h : getN s 6 [2, 2] = (X, e)) => bin_Get.calls s 6 _ 2 [2, 2] X e _ C1 (Nat.le_refl _) (by unfold bin_Get.f; rw [if_pos (by decide), h])
 by_cases h10 : s.size < 10
 ·
  rw [if_neg (by omega)] at hg;have HRE := hI (HR.out.symm.trans (if_pos h10));have HB0 := hI (hbin _ _ hg);clear hg h10 hbin C1 e1 e2 e3;go_enter Tryz.func77, Tryz.ntmps77;go_wp2_with fail
  refine HB0.out.mono ?_;rintro e w1 ⟨v, rfl, hr, hb⟩;obtain ⟨A, k, rfl⟩ := Kd.R_slice hr;have B1 := hI ((below_alloc (Below.refl w.heap.size w) _).trans (hb.mono (by simp)));clear hr hb;go_wp2;go_ret2;rw [HRE.out];exact ⟨_, rfl, Kd.R_nil _ _ _ _ _, B1.out⟩
 rw [if_pos (by omega)] at hg;rw [if_neg h10] at HR;have HB0 := hI (hbin _ _ hg);have HS := hI h10;clear hg h10 hbin C1;go_enter Tryz.func77, Tryz.ntmps77;go_wp2_with fail
 refine HB0.out.mono ?_;rintro e w1 ⟨v, rfl, hr, hb⟩;have B1 := hI ((below_alloc (Below.refl w.heap.size w) _).trans (hb.mono (by simp)));obtain ⟨g0, k0, rfl, hg1, hg2, hk1, hk2, hcs⟩ := row_block hr (by simp);have hlen : ([p, (m : Int)] : List Int).length = 2 := rfl;rw [hlen] at hk1 hcs ⊢;have x0 : w1.cell? ⟨g0, 0, none⟩ = some (.int .i64 p) := (hcs 0 (by decide)).trans rfl;have x1 : w1.cell? ⟨g0, 1, none⟩ = some (.int .i64 (m : Int)) := (hcs 1 (by decide)).trans rfl;clear hr hb hg1 hk2 hcs hlen HB0;by_cases hn : n = 10 + 2 * (m : Int)
 case neg =>
  have d1 : (n != 10 + 2 * (m : Int)) = true := by simpa using hn
  have HRE := hI (HR.out.symm.trans (if_neg hn));clear hn;go_wp2;go_ret2;rw [HRE.out];exact ⟨_, rfl, Kd.R_nil _ _ _ _ _, B1.out⟩
 rw [if_pos hn] at HR;have d1 : (n != 10 + 2 * (m : Int)) = false := by simpa using hn
 have HN := hI hn;clear hn;by_cases hs : (s.size : Int) < n
 ·
  have d2 : decide ((s.size : Int) < n) = true := decide_eq_true hs;have HRE := hI (HR.out.symm.trans (if_pos hs));clear hs;go_wp2;go_ret2;rw [HRE.out];exact ⟨_, rfl, Kd.R_nil _ _ _ _ _, B1.out⟩
 rw [if_neg hs] at HR;have d2 : decide ((s.size : Int) < n) = false := decide_eq_false hs;have HSN := hI hs;clear hs;obtain ⟨b, d3⟩ : ∃ b, decide ((65536 : Int) < p + (m : Int)) = b := ⟨_, rfl⟩;have d4 : decide ((65536 : Int) < wrap64 (p + (m : Int))) = b := by rw [e3]; exact d3
 have HBQ := hI d3;go_wp2_with fail
 refine wp_mono (Q := Exit.then ?_ (fun _ _ _ => False)) ?_ ?_;rotate_left 2
 ·
  intro e a w h;cases e with
  | normal => exact h
  | _ => exact (show False from h).elim
 refine bg_ 9 (fun u => u.cell? ⟨g0, 0, none⟩ = some (.int .i64 p) ∧ u.cell? ⟨g0, 1, none⟩ = some (.int .i64 (m : Int))) ⟨x0, x1⟩ (fun hHeld => ?_);refine pS_ 0 33 ?_;refine pS_ 1 34 ?_;refine pS_ 3 36 ?_;refine pS_ 4 37 ?_;refine tS_ 2 35 hHeld ?_;refine tS_ 5 38 hHeld ?_;refine pS_ 6 39 ?_;refine pS_ 7 40 ?_;refine pS_ 8 32 ?_;refine dS_ ?_;have BU := hI (show Below w.heap.size w w1.drew from below_drew1 B1.out);obtain ⟨u, hu⟩ : ∃ u, u = w1.drew := ⟨_, rfl⟩;rw [← hu] at hHeld BU ⊢;obtain ⟨y0, y1⟩ := hHeld;have HGU := hI (World.block_lt_of_cell? _ _ y0);clear hu x0 x1 e1 e2 e3 d1 d2 d3 d4;cases b with
 | true =>
  have HRE := hI (HR.out.symm.trans (if_pos (of_decide_eq_true HBQ.out)));go_wp2;go_ret2;rw [HRE.out];exact ⟨_, rfl, Kd.R_nil _ _ _ _ _, BU.out⟩
 | false =>
 rw [if_neg (of_decide_eq_false HBQ.out)] at HR;have y2 := cell_al (.cells #[.int .i64 2] 3) y1;go_wp2_with fail
 have hf := rep_told (z := 2) m (by have := HMB.out; omega);refine (slices_Repeat_int_int.calls _ 1 [2] _ _ _ (lit_C u [2] (by decide)) (by decide) hf).mono ?_;rintro x w2_ ⟨v, rfl, hr, hb⟩;obtain ⟨A1, k1, rfl⟩ := Kd.R_slice hr;obtain ⟨_, _, e0, hk1', C2⟩ := Kd.R_reads hr;injection e0 with e4 e5 e6
 subst e4;subst e6;have hbu : Below u.heap.size u w2_ := (below_alloc (Below.refl u.heap.size u) _).trans (hb.mono (by simp));have B2 := hI (BU.out.trans (hbu.mono BU.out.size));have z0 := (hbu.cell HGU.out).trans y0;have HC2 := hI C2;have HK2 := hI hk1';have HG2 := hI (World.block_lt_of_cell? _ _ z0);clear hf hr hb C2 hk1' e5 hbu y0 y1 y2;go_wp2_with fail
 have hg := get_rep s (s := 2) (by decide) 10 m;have ha2 : (2 : Int).natAbs = 2 := rfl;rw [ha2, if_pos (by have := HSN.out; have := HN.out; omega)] at hg;have hl1 := rep_one 2 m;obtain ⟨X, hX⟩ : ∃ X : List Int, X = (List.range m).map (fun i => w2 s (10 + 2 * i)) := ⟨_, rfl⟩;have hgx : getN s 10 (repN [2] m) = (X, 0) := by rw [hX]; exact hg
 have hXl : X.length = m := by rw [hX]; simp
 refine (bin_Get.calls s 10 _ k1 (repN [2] m) X 0 w2_ HC2.out HK2.out (by unfold bin_Get.f; rw [if_pos (by rw [hl1]; have := HMB.out; omega), hgx])).mono ?_;rintro x w3_ ⟨v, rfl, hr, hb⟩;obtain ⟨A3, k3, rfl⟩ := Kd.R_slice hr;obtain ⟨_, _, e0, hk3, C3⟩ := Kd.R_reads hr;injection e0 with e4 e5 e6
 subst e4;subst e6;have B3 := hI (B2.out.trans (hb.mono B2.out.size));have q0 := (hb.cell HG2.out).trans z0;have HC3 := hI C3;have HK3 := hI hk3;have HSP := hI (spans_told X p HP.out.1 (by have := HMB.out; omega) (by have := HP.out.2; omega) (X.length + 1) (Nat.le_refl _));have HRE := hI (show r = (spansN p X, 0) by rw [← HR.out, hX, Int.toNat_natCast]);clear hg ha2 hl1 hX hgx hXl hr hb C3 hk3 e5 z0 HC2 HK2;go_wp2_with fail
 refine (chart_spans.calls (X.length + 1) p _ k3 X _ w3_ HC3.out HK3.out HSP.out).mono ?_;rintro x w4_ ⟨v, rfl, hr, hb⟩;obtain ⟨A4, k4, rfl⟩ := Kd.R_slice hr;have HRR := hI (Kd.R_lower hr B3.out.size);have B4 := hI (B3.out.trans (hb.mono B3.out.size));clear hr hb q0;go_wp2;go_ret2;rw [HRE.out];exact ⟨_, rfl, HRR.out, B4.out⟩
def chart_Get.f (a0 : ByteArray) : Option (List S61 × Int) := some (getC a0)
theorem chart_Get.calls (a0 : ByteArray) (r1 : List S61) (r2 : Int) (w : World) (h : chart_Get.f a0 = some (r1, r2)) :
  Calls Tryz.prog 49 #[.string a0] w fun e w' => ∃ v0_ : Value, e = .returned (.tuple #[v0_, .int .i64 r2]) ∧ Kd.R k61 61 w' w.heap.size (fun _ => True) v0_ r1 ∧ Below w.heap.size w w' := by
 have hr : getC a0 = (r1, r2) := Option.some.inj h;clear h;have hg := get_two a0 0;have C1 := lit_C w [2, 2] (by decide);have hbin := fun X e (h : getN a0 0 [2, 2] = (X, e)) => bin_Get.calls a0 0 _ 2 [2, 2] X e _ C1 (Nat.le_refl _) (by unfold bin_Get.f; rw [if_pos (by decide), h])
 unfold getC at hr;by_cases h4 : a0.size < 4
 ·
  rw [if_neg (by omega)] at hg;rw [if_pos h4] at hr;obtain ⟨rfl, rfl⟩ := Prod.mk.inj hr;have HB0 := hI (hbin _ _ hg);clear hg h4 hbin C1 hr;go_enter Tryz.func49, Tryz.ntmps49;go_wp2_with fail
  refine HB0.out.mono ?_;rintro e w1 ⟨v, rfl, hr, hb⟩;obtain ⟨A, k, rfl⟩ := Kd.R_slice hr;have B1 := hI ((below_alloc (Below.refl w.heap.size w) _).trans (hb.mono (by simp)));clear hr hb;go_wp2;go_ret2;exact ⟨_, rfl, Kd.R_nil _ _ _ _ _, B1.out⟩
 rw [if_pos (by omega)] at hg;rw [if_neg h4] at hr;obtain ⟨f, hf⟩ : ∃ f, f = w2 a0 0 := ⟨_, rfl⟩;obtain ⟨n, hn⟩ : ∃ n, n = w2 a0 2 := ⟨_, rfl⟩;have e2 : w2 a0 (0 + 2) = n := hn.symm;rw [← hf, e2] at hg;rw [← hf, ← hn] at hr;have HB0 := hI (hbin _ _ hg);have HR := hI hr;have HS := hI h4;clear hg h4 hbin C1 hr e2 hf hn;go_enter Tryz.func49, Tryz.ntmps49;go_wp2_with fail
 refine HB0.out.mono ?_;rintro e w1 ⟨v, rfl, hr, hb⟩;have B1 := hI ((below_alloc (Below.refl w.heap.size w) _).trans (hb.mono (by simp)));obtain ⟨g0, k0, rfl, hg1, hg2, hk1, hk2, hcs⟩ := row_block hr (by simp);have hlen : ([f, n] : List Int).length = 2 := rfl;rw [hlen] at hk1 hcs ⊢;have x0 : w1.cell? ⟨g0, 0, none⟩ = some (.int .i64 f) := (hcs 0 (by decide)).trans rfl;have x1 : w1.cell? ⟨g0, 1, none⟩ = some (.int .i64 n) := (hcs 1 (by decide)).trans rfl;clear hr hb hg1 hk2 hcs hlen HB0;by_cases h0 : f = 0
 ·
  have d1 : (f == 0) = true := by rw [h0]; rfl
  rw [if_pos h0] at HR;clear h0;go_wp2_with fail
  refine (chart_getSmall.calls 300 a0 n r1 r2 w1 (by rw [getSmall_told a0 n 300 (Nat.le_refl _), HR.out])).mono ?_;rintro e w2_ ⟨v, rfl, hr, hb⟩;obtain ⟨A4, k4, rfl⟩ := Kd.R_slice hr;have HRR := hI (Kd.R_lower hr B1.out.size);have B4 := hI (B1.out.trans (hb.mono B1.out.size));clear hr hb x0 x1;go_wp2;go_ret2;exact ⟨_, rfl, HRR.out, B4.out⟩
 have d1 : (f == 0) = false := by simpa using h0
 rw [if_neg h0] at HR;clear h0;by_cases h6 : f = 6
 ·
  have d2 : (f == 6) = true := by rw [h6]; rfl
  rw [if_pos h6] at HR;clear h6;go_wp2_with fail
  refine (trimT_calls a0 n w1 (r1, r2) HR.out).mono ?_;rintro e w2_ ⟨v, rfl, hr, hb⟩;obtain ⟨A4, k4, rfl⟩ := Kd.R_slice hr;have HRR := hI (Kd.R_lower hr B1.out.size);have B4 := hI (B1.out.trans (hb.mono B1.out.size));clear hr hb x0 x1;go_wp2;go_ret2;exact ⟨_, rfl, HRR.out, B4.out⟩
 have d2 : (f == 6) = false := by simpa using h6
 rw [if_neg h6] at HR;obtain ⟨rfl, rfl⟩ := Prod.mk.inj HR.out;clear h6 HR;go_wp2;go_ret2;exact ⟨_, rfl, Kd.R_nil _ _ _ _ _, B1.out⟩
end Go.Proofs.YtejdflndgnpkcaaGreat.P
end
