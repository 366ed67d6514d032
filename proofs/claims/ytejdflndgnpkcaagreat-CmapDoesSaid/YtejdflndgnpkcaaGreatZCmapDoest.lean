/- Words, contracts and plain facts of the proof. Each says its own condition. -/
import Derived.Test.YtejdflndgnpkcaaGreatZCmapDoesr
import Derived.Test.YtejdflndgnpkcaaGreatZCmapDoess
import Derived.Test.YtejdflndgnpkcaaGreatZCmapDoese
import Derived.Test.YtejdflndgnpkcaaGreatZCmapDoesi
set_option linter.unusedVariables false
set_option maxRecDepth 100000
set_option linter.unusedSimpArgs false
set_option maxHeartbeats 16000000
section
namespace Go.Proofs.YtejdflndgnpkcaaGreat.P
open Go.RowKit PW PL PM
theorem ord_app : ∀ {a b : List S61}, (∀ x ∈ a, rightN x = true) → (∀ x ∈ a, ∀ y ∈ b, x.f1 < y.f0) → ordN a = true → ordN b = true → ordN (a ++ b) = true
 | [], b, _, _, _, hb => hb
 | x :: r, b, hr, hab, ha, hb => by
  have h1 := ord_head (fun y hy => hr y (List.mem_cons_of_mem _ hy)) ha;refine ord_mk (fun y hy => ?_) (ord_app (fun y hy => hr y (List.mem_cons_of_mem _ hy)) (fun z hz y hy => hab z (List.mem_cons_of_mem _ hz) y hy) (ord_cons ha) hb);rcases List.mem_append.1 hy with hy | hy
  · exact h1 y hy
  exact hab x List.mem_cons_self y hy
theorem lin_front : ∀ (a b : List S61) (c : Int), (∀ y ∈ b, ¬ (y.f0 ≤ c ∧ c ≤ y.f1)) → linN (a ++ b) c = linN a c
 | [], b, c, h => by rw [List.nil_append, lin_none b c h]; rfl
 | x :: r, b, c, h => by
  rw [List.cons_append];unfold linN;rw [lin_front r b c h]
theorem parts_ok {x : S61} (hx : rightN x = true) {st : Int} (hst : st = 0 ∨ st = 1) : ∀ y ∈ partsP x st, rightN y = true ∧ y.f3 = st ∧ x.f0 ≤ y.f0 ∧ y.f1 ≤ x.f1 := by
 obtain ⟨a0, a1, a2, a3, a4, a5, a6⟩ := (right_iff x).1 hx;intro y hy;unfold partsP at hy;split at hy
 ·
  rename_i hone
  split at hy
  ·
   obtain rfl := List.mem_singleton.1 hy;refine ⟨?_, rfl, Int.le_refl _, Int.le_refl _⟩;rw [right_iff];refine ⟨a0, a1, a2, hst, a4, a5, ?_⟩;show x.f2 + st * (x.f1 - x.f0) ≤ 65535
   rcases hone with h | h
   · rw [← h]; exact a6
   rw [h, show x.f1 - x.f1 = 0 by omega, Int.mul_zero]; omega
  simp at hy
 unfold partsL at hy;obtain ⟨hm, hp⟩ := List.mem_filter.1 hy;obtain ⟨i, hi, rfl⟩ := List.mem_map.1 hm;have hi := List.mem_range.1 hi;have hp := of_decide_eq_true hp;unfold partP at hp ⊢;dsimp only at hp ⊢
 have hg : x.f2 + x.f3 * (i : Int) ≤ 65535 := by
  rcases a3 with h3 | h3
  · rw [h3, Int.zero_mul] at a6 ⊢; omega
  rw [h3, Int.one_mul] at a6 ⊢; omega
 refine ⟨?_, rfl, by omega, by omega⟩;rw [right_iff];refine ⟨by show 0 ≤ x.f0 + (i : Int); omega, Int.le_refl _, by show x.f0 + (i : Int) ≤ 1114111; omega, hst, by show 0 ≤ x.f2 + x.f3 * (i : Int); omega, hg, ?_⟩;show x.f2 + x.f3 * (i : Int) + st * (x.f0 + (i : Int) - (x.f0 + (i : Int))) ≤ 65535
 rw [show x.f0 + (i : Int) - (x.f0 + (i : Int)) = 0 by omega, Int.mul_zero]; omega
theorem partsL_mem {x : S61} {st : Int} {n : Nat} {y : S61} (hy : y ∈ partsL x st n) : x.f0 ≤ y.f0 ∧ y.f0 = y.f1 ∧ y.f1 < x.f0 + (n : Int) := by
 unfold partsL at hy;obtain ⟨hm, _⟩ := List.mem_filter.1 hy;obtain ⟨i, hi, rfl⟩ := List.mem_map.1 hm;have hi := List.mem_range.1 hi;unfold partP;dsimp only
 omega
theorem partsL_right {x : S61} (hx : rightN x = true) {st : Int} (hst : st = 0 ∨ st = 1) {n : Nat} (hn : (n : Int) ≤ x.f1 - x.f0 + 1) : ∀ y ∈ partsL x st n, rightN y = true := by
 obtain ⟨a0, a1, a2, a3, a4, a5, a6⟩ := (right_iff x).1 hx;intro y hy;unfold partsL at hy;obtain ⟨hm, hp⟩ := List.mem_filter.1 hy;obtain ⟨i, hi, rfl⟩ := List.mem_map.1 hm;have hi := List.mem_range.1 hi;have hp := of_decide_eq_true hp;unfold partP at hp ⊢;dsimp only at hp ⊢
 have hg : x.f2 + x.f3 * (i : Int) ≤ 65535 := by
  rcases a3 with h3 | h3
  · rw [h3, Int.zero_mul] at a6 ⊢; omega
  rw [h3, Int.one_mul] at a6 ⊢; omega
 rw [right_iff];refine ⟨by show 0 ≤ x.f0 + (i : Int); omega, Int.le_refl _, by show x.f0 + (i : Int) ≤ 1114111; omega, hst, by show 0 ≤ x.f2 + x.f3 * (i : Int); omega, hg, ?_⟩;show x.f2 + x.f3 * (i : Int) + st * (x.f0 + (i : Int) - (x.f0 + (i : Int))) ≤ 65535
 rw [show x.f0 + (i : Int) - (x.f0 + (i : Int)) = 0 by omega, Int.mul_zero]; omega
theorem partsL_ord {x : S61} (hx : rightN x = true) {st : Int} (hst : st = 0 ∨ st = 1) : ∀ n : Nat, (n : Int) ≤ x.f1 - x.f0 + 1 → ordN (partsL x st n) = true
 | 0, _ => rfl
 | n + 1, hn => by
  rw [partsL_succ];refine ord_app (partsL_right hx hst (by omega)) (fun y hy z hz => ?_) (partsL_ord hx hst n (by omega)) (by split <;> rfl);have h1 := (partsL_mem hy).2.2;split at hz
  ·
   obtain rfl := List.mem_singleton.1 hz;unfold partP;exact h1
  simp at hz
theorem partsL_lin {x : S61} (hx : rightN x = true) {st : Int} (hst : st = 0 ∨ st = 1) (c : Int) : ∀ n : Nat, (n : Int) ≤ x.f1 - x.f0 + 1 → linN (partsL x st n) c = if x.f0 ≤ c ∧ c < x.f0 + (n : Int) then x.f2 + x.f3 * (c - x.f0) else 0
 | 0, _ => by rw [if_neg (by omega)]; rfl
 | n + 1, hn => by
  have ih := partsL_lin hx hst c n (by omega);obtain ⟨a0, a1, a2, a3, a4, a5, a6⟩ := (right_iff x).1 hx;rw [partsL_succ];by_cases hc : c = x.f0 + (n : Int)
  ·
   have hcc : x.f0 ≤ c ∧ c < x.f0 + ((n + 1 : Nat) : Int) := by omega
   rw [lin_skip _ _ c (fun y hy h => by have := (partsL_mem hy).2.2; omega), if_pos hcc, show c - x.f0 = (n : Int) by omega]
   have hg : 0 ≤ x.f2 + x.f3 * (n : Int) := by
    rcases a3 with h3 | h3
    · rw [h3, Int.zero_mul]; omega
    rw [h3, Int.one_mul]; omega
   by_cases hp : 0 < x.f2 + x.f3 * (n : Int)
   ·
    rw [if_pos hp];unfold linN;have hin : (partP x st n).f0 ≤ c ∧ c ≤ (partP x st n).f1 := by unfold partP; dsimp only; omega
    rw [if_pos hin];show x.f2 + x.f3 * (n : Int) + st * (c - (x.f0 + (n : Int))) = _
    rw [hc, show x.f0 + (n : Int) - (x.f0 + (n : Int)) = 0 by omega, Int.mul_zero, Int.add_zero]
   rw [if_neg hp];have : x.f2 + x.f3 * (n : Int) = 0 := by omega
   rw [this]; rfl
  rw [lin_front _ _ c (fun y hy h => ?_), ih]
  ·
   by_cases hr : x.f0 ≤ c ∧ c < x.f0 + (n : Int)
   · rw [if_pos hr, if_pos (by omega)]
   rw [if_neg hr, if_neg (by omega)]
  split at hy
  ·
   obtain rfl := List.mem_singleton.1 hy;unfold partP at h;dsimp only at h
   omega
  simp at hy
theorem parts_ord {x : S61} (hx : rightN x = true) {st : Int} (hst : st = 0 ∨ st = 1) : ordN (partsP x st) = true := by
 obtain ⟨a0, a1, a2, a3, a4, a5, a6⟩ := (right_iff x).1 hx;unfold partsP;split
 · split <;> rfl
 exact partsL_ord hx hst _ (by omega)
theorem parts_lin {x : S61} (hx : rightN x = true) {st : Int} (hst : st = 0 ∨ st = 1) {c : Int} (h0 : x.f0 ≤ c) (h1 : c ≤ x.f1) : linN (partsP x st) c = x.f2 + x.f3 * (c - x.f0) := by
 obtain ⟨a0, a1, a2, a3, a4, a5, a6⟩ := (right_iff x).1 hx;unfold partsP;split
 ·
  rename_i hone
  have hval : st * (c - x.f0) = x.f3 * (c - x.f0) := by
   rcases hone with h | h
   · rw [h]
   rw [show c - x.f0 = 0 by omega, Int.mul_zero, Int.mul_zero]
  split
  ·
   rename_i hhas
   have hm : (⟨x.f0, x.f1, x.f2, st⟩ : S61) ∈ partsP x st := by unfold partsP; rw [if_pos hone, if_pos hhas]; simp
   unfold linN;rw [if_pos ⟨h0, h1⟩];show x.f2 + st * (c - x.f0) = _
   rw [hval]
  rename_i hhas
  show (0 : Int) = _
  have h2 : x.f2 = 0 := by omega
  rcases a3 with h3 | h3
  · rw [h2, h3, Int.zero_mul]; rfl
  rw [h2, h3, Int.one_mul]; omega
 rw [partsL_lin hx hst c _ (by omega), if_pos (by omega)]
theorem split_ok {st : Int} (hst : st = 0 ∨ st = 1) : ∀ {l : List S61}, (∀ x ∈ l, rightN x = true) → ordN l = true → (∀ y ∈ splitL l st, rightN y = true ∧ y.f3 = st ∧ ∃ x ∈ l, x.f0 ≤ y.f0 ∧ y.f1 ≤ x.f1) ∧ ordN (splitL l st) = true ∧ ∀ c, linN (splitL l st) c = linN l c
 | [], _, _ => ⟨fun y hy => absurd hy (by simp [splitL]), rfl, fun c => rfl⟩
 | x :: r, hr, ho => by
  have hx := hr x List.mem_cons_self;have hr' : ∀ y ∈ r, rightN y = true := fun y hy => hr y (List.mem_cons_of_mem _ hy)
  obtain ⟨i1, i2, i3⟩ := split_ok hst hr' (ord_cons ho);have hh := ord_head hr' ho;have e : splitL (x :: r) st = partsP x st ++ splitL r st := by unfold splitL; rw [List.flatMap_cons]
  have hp := parts_ok hx hst
  have hlate : ∀ y ∈ splitL r st, x.f1 < y.f0 := fun y hy => by
   obtain ⟨_, _, z, hz, h1, h2⟩ := i1 y hy;have := hh z hz;omega
  rw [e];refine ⟨fun y hy => ?_, ord_app (fun y hy => (hp y hy).1) (fun y hy z hz => ?_) (parts_ord hx hst) i2, fun c => ?_⟩
  ·
   rcases List.mem_append.1 hy with hy | hy
   ·
    obtain ⟨q1, q2, q3, q4⟩ := hp y hy;exact ⟨q1, q2, x, List.mem_cons_self, q3, q4⟩
   obtain ⟨q1, q2, z, hz, q3, q4⟩ := i1 y hy;exact ⟨q1, q2, z, List.mem_cons_of_mem _ hz, q3, q4⟩
  ·
   have := hlate z hz;have := (hp y hy).2.2.2;omega
  by_cases hc : x.f0 ≤ c ∧ c ≤ x.f1
  ·
   rw [lin_front _ _ c (fun y hy h => by have := hlate y hy; omega), parts_lin hx hst hc.1 hc.2];conv => rhs; unfold linN
   rw [if_pos hc]
  rw [lin_skip _ _ c (fun y hy h => by have := (hp y hy).2.2; omega), i3 c];conv => rhs; unfold linN
  rw [if_neg hc]
theorem split_good {l : List S61} {st : Int} {L : List S61} (h : splitN l st = (L, 0)) : isL l = true ∧ (st = 0 ∨ st = 1) ∧ isL L = true ∧ (∀ y ∈ L, y.f3 = st) ∧ ∀ c, lookN L c = lookN l c := by
 unfold splitN at h;split at h
 · exact absurd (Prod.mk.inj h).2 (by decide)
 rename_i hn
 have hi : isL l = true := by cases hh : isL l with | true => rfl | false => exact absurd (.inl hh) hn
 have hst : st = 0 ∨ st = 1 := by omega
 split at h
 ·
  rename_i hle
  obtain ⟨rfl, _⟩ := Prod.mk.inj h;obtain ⟨h1, h2, h3⟩ := isL_all hi;obtain ⟨i1, i2, i3⟩ := split_ok hst h2 h3;refine ⟨hi, hst, isL_mk hle (fun y hy => (i1 y hy).1) i2, fun y hy => (i1 y hy).2.1, fun c => ?_⟩;rw [look_lin (fun y hy => (i1 y hy).1) i2, look_lin h2 h3, i3]
 exact absurd (Prod.mk.inj h).2 (by decide)
theorem w4_at (pre : List UInt8) (v : Int) (r : List UInt8) (h0 : 0 ≤ v) (h1 : v ≤ 4294967295) (p : Nat) (hp : pre.length = p) : w4 ⟨(pre ++ (bytesN v 4 ++ r)).toArray⟩ p = v := by
 unfold w4;rw [← hp, ba_drop];exact take_bytes (s := 4) (by decide) (fits4 h0 h1) r
theorem headB_parts (f n : Int) : headB f n = bytesN f 2 ++ (bytesN 0 2 ++ (bytesN (16 + 12 * n) 4 ++ (bytesN 0 4 ++ (bytesN n 4 ++ [])))) := rfl
theorem get_putG {L : List S61} {f : Int} (hL : isL L = true) (hf : f = 12 ∨ f = 13) (hst : ∀ y ∈ L, y.f3 = 13 - f) (more : List UInt8) : getG ⟨(headB f (L.length : Int) ++ spansB L ++ more).toArray⟩ = (L, 0) := by
 obtain ⟨hlen, hr, _⟩ := isL_all hL;obtain ⟨s, hs⟩ : ∃ s : ByteArray, s = ⟨(headB f (L.length : Int) ++ spansB L ++ more).toArray⟩ := ⟨_, rfl⟩
 have hsz : s.size = 16 + 12 * L.length + more.length := by
  rw [hs, ba_size, List.length_append, List.length_append, headB_length, spansB_length]
 have e0 : w2 s 0 = f := by
  rw [hs, headB_parts];have := w2_at [] f (bytesN 0 2 ++ (bytesN (16 + 12 * (L.length : Int)) 4 ++ (bytesN 0 4 ++ (bytesN (L.length : Int) 4 ++ []))) ++ spansB L ++ more) (by omega) (by omega) 0 rfl;simpa only [List.nil_append, List.append_assoc] using this
 have e4 : w4 s 4 = 16 + 12 * (L.length : Int) := by
  rw [hs, headB_parts];have := w4_at (bytesN f 2 ++ bytesN 0 2) (16 + 12 * (L.length : Int)) (bytesN 0 4 ++ (bytesN (L.length : Int) 4 ++ []) ++ spansB L ++ more) (by omega) (by omega) 4 (by rw [List.length_append, bytesN_length, bytesN_length]);simpa only [List.append_assoc] using this
 have e12 : w4 s 12 = (L.length : Int) := by
  rw [hs, headB_parts];have := w4_at (bytesN f 2 ++ (bytesN 0 2 ++ (bytesN (16 + 12 * (L.length : Int)) 4 ++ bytesN 0 4))) (L.length : Int) ([] ++ spansB L ++ more) (by omega) (by omega) 12 (by simp [bytesN_length]);simpa only [List.append_assoc] using this
 have hsp : spansG s L.length (13 - f) = L := by
  apply List.ext_getElem
  · simp [spansG]
  intro i h1 h2;have hx := hr _ (List.getElem_mem h2);obtain ⟨a0, a1, a2, a3, a4, a5, a6⟩ := (right_iff L[i]).1 hx;have h3 := hst _ (List.getElem_mem h2)
  have hcut : spansB L = spansB (L.take i) ++ (spanB L[i] ++ spansB (L.drop (i + 1))) := by
   unfold spansB;conv => lhs; rw [← List.take_append_drop i L, List.drop_eq_getElem_cons h2]
   rw [List.flatMap_append, List.flatMap_cons]
  have hpl : (headB f (L.length : Int) ++ spansB (L.take i)).length = 16 + 12 * i := by
   rw [List.length_append, headB_length, spansB_length, List.length_take]; omega
  have hse : s = ⟨((headB f (L.length : Int) ++ spansB (L.take i)) ++ (spanB L[i] ++ (spansB (L.drop (i + 1)) ++ more))).toArray⟩ := by
   rw [hs, hcut]; simp only [List.append_assoc]
  have f0 : w4 s (16 + 12 * i) = L[i].f0 := by
   rw [hse];have := w4_at (headB f (L.length : Int) ++ spansB (L.take i)) L[i].f0 (bytesN L[i].f1 4 ++ (bytesN L[i].f2 4 ++ []) ++ (spansB (L.drop (i + 1)) ++ more)) a0 (by omega) _ hpl;unfold spanB;simpa only [List.append_assoc] using this
  have f1 : w4 s (20 + 12 * i) = L[i].f1 := by
   rw [hse];have := w4_at (headB f (L.length : Int) ++ spansB (L.take i) ++ bytesN L[i].f0 4) L[i].f1 (bytesN L[i].f2 4 ++ [] ++ (spansB (L.drop (i + 1)) ++ more)) (by omega) (by omega) (20 + 12 * i) (by rw [List.length_append, hpl, bytesN_length]; omega);unfold spanB;simpa only [List.append_assoc] using this
  have f2 : w4 s (24 + 12 * i) = L[i].f2 := by
   rw [hse];have := w4_at (headB f (L.length : Int) ++ spansB (L.take i) ++ bytesN L[i].f0 4 ++ bytesN L[i].f1 4) L[i].f2 ([] ++ (spansB (L.drop (i + 1)) ++ more)) a4 (by omega) (24 + 12 * i) (by rw [List.length_append, List.length_append, hpl, bytesN_length, bytesN_length]; omega);unfold spanB;simpa only [List.append_assoc] using this
  simp only [spansG, List.getElem_map, List.getElem_range];rw [f0, f1, f2, ← h3]
 rw [← hs];unfold getG;rw [if_neg (by omega), if_neg (by rw [e0]; omega), if_neg (by rw [e12]; omega), if_neg (by rw [e4, e12]; omega), if_neg (by rw [e4]; omega), e0, e12, Int.toNat_natCast, hsp, if_pos hL]
def glyF (v d : Int) : Int := if v = 0 then 0 else (v + d) % 65536
def nearF (a b d : Int) : List S61 :=
 if (a + d) % 65536 + b - a ≤ 65535 then [⟨a, b, (a + d) % 65536, 1⟩]
 else [⟨a, a + 65535 - (a + d) % 65536, (a + d) % 65536, 1⟩, ⟨a + 65535 - (a + d) % 65536 + 1, b, 0, 1⟩]
def farF (t : ByteArray) (a d : Int) (base m : Nat) : List S61 := spansN a ((List.range m).map (fun k => glyF (w2 t (base + 2 * k)) d))
def segF (t : ByteArray) (a b d o : Int) (own : Nat) : Option (List S61) :=
 if o = 0 then some (nearF a b d)
 else if own + o.toNat + 2 * (b - a + 1).toNat ≤ t.size then some (farF t a d (own + o.toNat) (b - a + 1).toNat) else none
def toF (t : ByteArray) (i : Nat) : Int := w2 t (14 + 2 * i)
def fromF (t : ByteArray) (n i : Nat) : Int := w2 t (16 + 2 * n + 2 * i)
def delF (t : ByteArray) (n i : Nat) : Int := w2 t (16 + 4 * n + 2 * i)
def offF (t : ByteArray) (n i : Nat) : Int := w2 t (16 + 6 * n + 2 * i)
def segAt (t : ByteArray) (n i : Nat) : Option (List S61) := segF t (fromF t n i) (toF t i) (delF t n i) (offF t n i) (16 + 6 * n + 2 * i)
def segsF (t : ByteArray) (n : Nat) : Nat → Option (List S61)
 | 0 => some []
 | i + 1 => (segsF t n i).bind (fun l => (segAt t n i).bind (fun m => some (l ++ m)))
def lastF (t : ByteArray) : Nat → Int
 | 0 => -1
 | i + 1 => toF t i
def rightAt (t : ByteArray) (n i : Nat) : Bool := decide (fromF t n i ≤ toF t i) && (decide (lastF t i < fromF t n i) && decide (offF t n i % 2 = 0))
def rightF (t : ByteArray) (n : Nat) : Bool := (List.range n).all (rightAt t n) && decide (lastF t n = 65535)
def cntF (s : ByteArray) : Nat := (w2 s 6 / 2).toNat
def getS (s : ByteArray) : List S61 × Int :=
 if s.size < 14 then ([], 4)
 else if w2 s 0 ≠ 4 ∨ w2 s 6 % 2 ≠ 0 ∨ w2 s 6 / 2 = 0 then ([], 5)
 else if (s.size : Int) < w2 s 2 then ([], 4)
 else if w2 s 2 < 16 + 8 * (cntF s : Int) then ([], 5)
 else if rightF (s.extract 0 (w2 s 2).toNat) (cntF s) = false then ([], 5)
 else match segsF (s.extract 0 (w2 s 2).toNat) (cntF s) (cntF s) with
  | none => ([], 4)
  | some l => (l, 0)
theorem ord_len : ∀ (l : List S61) (lo hi : Int), (∀ y ∈ l, rightN y = true ∧ lo ≤ y.f0 ∧ y.f1 ≤ hi) → ordN l = true → lo ≤ hi + 1 → (l.length : Int) ≤ hi - lo + 1
 | [], lo, hi, _, _, h => by simp; omega
 | x :: r, lo, hi, hr, ho, h => by
  obtain ⟨x1, x2, x3⟩ := hr x List.mem_cons_self;obtain ⟨a0, a1, _⟩ := (right_iff x).1 x1;have hh := ord_head (fun y hy => (hr y (List.mem_cons_of_mem _ hy)).1) ho;have := ord_len r (x.f1 + 1) hi (fun y hy => ⟨(hr y (List.mem_cons_of_mem _ hy)).1, by have := hh y hy; omega, (hr y (List.mem_cons_of_mem _ hy)).2.2⟩) (ord_cons ho) (by omega);rw [List.length_cons];omega
theorem near_ok {a b d : Int} (h0 : 0 ≤ a) (h1 : a ≤ b) (h2 : b ≤ 65535) : (∀ y ∈ nearF a b d, rightN y = true ∧ a ≤ y.f0 ∧ y.f1 ≤ b) ∧ ordN (nearF a b d) = true := by
 unfold nearF;obtain ⟨g, hg⟩ : ∃ g, g = (a + d) % 65536 := ⟨_, rfl⟩;rw [← hg];have hgb : 0 ≤ g ∧ g ≤ 65535 := by omega
 clear hg;split
 ·
  rename_i h
  refine ⟨fun y hy => ?_, rfl⟩;obtain rfl := List.mem_singleton.1 hy;refine ⟨(right_iff _).2 ⟨h0, h1, by show b ≤ 1114111; omega, .inr rfl, hgb.1, hgb.2, by show g + 1 * (b - a) ≤ 65535; omega⟩, Int.le_refl _, Int.le_refl _⟩
 rename_i h
 refine ⟨fun y hy => ?_, ?_⟩
 ·
  rcases List.mem_cons.1 hy with rfl | hy
  · refine ⟨(right_iff _).2 ⟨h0, by show a ≤ a + 65535 - g; omega, by show a + 65535 - g ≤ 1114111; omega, .inr rfl, hgb.1, hgb.2, by show g + 1 * (a + 65535 - g - a) ≤ 65535; omega⟩, Int.le_refl _, by show a + 65535 - g ≤ b; omega⟩
  obtain rfl := List.mem_singleton.1 hy;refine ⟨(right_iff _).2 ⟨by show 0 ≤ a + 65535 - g + 1; omega, by show a + 65535 - g + 1 ≤ b; omega, by show b ≤ 1114111; omega, .inr rfl, by show (0 : Int) ≤ 0; omega, by show (0 : Int) ≤ 65535; omega, by show 0 + 1 * (b - (a + 65535 - g + 1)) ≤ 65535; omega⟩, by show a ≤ a + 65535 - g + 1; omega, Int.le_refl _⟩
 unfold ordN;rw [decide_eq_true (show a + 65535 - g < a + 65535 - g + 1 by omega)];rfl
theorem glyF_bd {v d : Int} : 0 ≤ glyF v d ∧ glyF v d ≤ 65535 := by unfold glyF; split <;> omega
theorem far_ok {t : ByteArray} {a d : Int} {base m : Nat} (h0 : 0 ≤ a) (h2 : a + m ≤ 65536) : (∀ y ∈ farF t a d base m, rightN y = true ∧ a ≤ y.f0 ∧ y.f1 < a + m) ∧ ordN (farF t a d base m) = true := by
 unfold farF;obtain ⟨L, hL⟩ : ∃ L, L = (List.range m).map (fun k => glyF (w2 t (base + 2 * k)) d) := ⟨_, rfl⟩;have hlen : L.length = m := by rw [hL]; simp
 have hb : ∀ g ∈ L, 0 ≤ g ∧ g ≤ 65535 := fun g hg => by
  rw [hL] at hg;obtain ⟨k, _, rfl⟩ := List.mem_map.1 hg;exact glyF_bd
 rw [← hL];refine ⟨fun y hy => ?_, spans_ord L a⟩;have h3 := spans_right (L := L) h0 (by rw [hlen]; exact h2) hb y hy;obtain ⟨q1, q2, q3, _⟩ := spans_mem L a y hy;rw [hlen] at q3;exact ⟨h3, q2, by omega⟩
theorem segF_ok {t : ByteArray} {a b d o : Int} {own : Nat} {l : List S61} (h0 : 0 ≤ a) (h1 : a ≤ b) (h2 : b ≤ 65535) (h : segF t a b d o own = some l) : (∀ y ∈ l, rightN y = true ∧ a ≤ y.f0 ∧ y.f1 ≤ b) ∧ ordN l = true := by
 unfold segF at h;split at h
 ·
  obtain rfl := Option.some.inj h;exact near_ok h0 h1 h2
 split at h
 ·
  obtain rfl := Option.some.inj h;obtain ⟨q1, q2⟩ := far_ok (t := t) (a := a) (d := d) (base := own + o.toNat) (m := (b - a + 1).toNat) h0 (by omega);exact ⟨fun y hy => ⟨(q1 y hy).1, (q1 y hy).2.1, by have := (q1 y hy).2.2; omega⟩, q2⟩
 exact absurd h (by simp)
theorem lastF_bd (t : ByteArray) (i : Nat) : -1 ≤ lastF t i ∧ lastF t i ≤ 65535 := by
 cases i with
 | zero => exact ⟨Int.le_refl (-1), show (-1 : Int) ≤ 65535 by decide⟩
 | succ i =>
  have h := w2_bd t (14 + 2 * i);have e : lastF t (i + 1) = w2 t (14 + 2 * i) := rfl;rw [e]; omega
theorem segsF_ok {t : ByteArray} {n : Nat} : ∀ (i : Nat) {l : List S61}, (∀ j, j < i → rightAt t n j = true) → segsF t n i = some l → (∀ y ∈ l, rightN y = true ∧ y.f1 ≤ lastF t i) ∧ ordN l = true
 | 0, l, _, h => by
  obtain rfl := Option.some.inj h;exact ⟨fun y hy => absurd hy (by simp), rfl⟩
 | i + 1, l, hr, h => by
  unfold segsF at h;cases h1 : segsF t n i with
  | none => rw [h1] at h; exact absurd h (by simp)
  | some l1 =>
   rw [h1, Option.bind_some] at h;cases h2 : segAt t n i with
   | none => rw [h2] at h; exact absurd h (by simp)
   | some l2 =>
    rw [h2, Option.bind_some] at h;obtain rfl := Option.some.inj h;obtain ⟨q1, q2⟩ := segsF_ok i (fun j hj => hr j (by omega)) h1;have hri := hr i (by omega);unfold rightAt at hri;simp only [Bool.and_eq_true, decide_eq_true_eq] at hri;obtain ⟨r1, r2, _⟩ := hri;have hb := lastF_bd t i;have hb2 := w2_bd t (14 + 2 * i);have hf : 0 ≤ fromF t n i := (w2_bd t _).1;have ht : toF t i ≤ 65535 := (w2_bd t _).2;obtain ⟨s1, s2⟩ := segF_ok hf r1 ht h2;refine ⟨fun y hy => ?_, ord_app (fun y hy => (q1 y hy).1) (fun x hx y hy => ?_) q2 s2⟩
    ·
     rcases List.mem_append.1 hy with hy | hy
     ·
      refine ⟨(q1 y hy).1, ?_⟩;have := (q1 y hy).2;show y.f1 ≤ toF t i
      omega
     exact ⟨(s1 y hy).1, (s1 y hy).2.2⟩
    have := (q1 x hx).2;have := (s1 y hy).2.1;omega
theorem getS_ok {s : ByteArray} {l : List S61} {e : Int} (h : getS s = (l, e)) : (e ≠ 0 → l = []) ∧ (e = 0 → isL l = true ∧ ∀ y ∈ l, y.f1 ≤ 65535) ∧ (e = 0 ∨ e = 4 ∨ e = 5) := by
 unfold getS at h;split at h
 · obtain ⟨rfl, rfl⟩ := Prod.mk.inj h; exact ⟨fun _ => rfl, fun h => absurd h (by decide), by decide⟩
 split at h
 · obtain ⟨rfl, rfl⟩ := Prod.mk.inj h; exact ⟨fun _ => rfl, fun h => absurd h (by decide), by decide⟩
 split at h
 · obtain ⟨rfl, rfl⟩ := Prod.mk.inj h; exact ⟨fun _ => rfl, fun h => absurd h (by decide), by decide⟩
 split at h
 · obtain ⟨rfl, rfl⟩ := Prod.mk.inj h; exact ⟨fun _ => rfl, fun h => absurd h (by decide), by decide⟩
 split at h
 · obtain ⟨rfl, rfl⟩ := Prod.mk.inj h; exact ⟨fun _ => rfl, fun h => absurd h (by decide), by decide⟩
 rename_i hrt
 split at h
 · obtain ⟨rfl, rfl⟩ := Prod.mk.inj h; exact ⟨fun _ => rfl, fun h => absurd h (by decide), by decide⟩
 rename_i l1 hl1
 obtain ⟨rfl, rfl⟩ := Prod.mk.inj h;refine ⟨fun h => absurd rfl h, fun _ => ?_, .inl rfl⟩
 have hr : rightF (s.extract 0 (w2 s 2).toNat) (cntF s) = true := by
  cases hq : rightF (s.extract 0 (w2 s 2).toNat) (cntF s) with
  | true => rfl
  | false => exact absurd hq hrt
 unfold rightF at hr;obtain ⟨r1, _⟩ := Bool.and_eq_true_iff.1 hr;have r2 := List.all_eq_true.1 r1;obtain ⟨q1, q2⟩ := segsF_ok (cntF s) (fun j hj => r2 j (List.mem_range.2 hj)) hl1;have hb := lastF_bd (s.extract 0 (w2 s 2).toNat) (cntF s);have q3 : ∀ y ∈ l1, y.f1 ≤ 65535 := fun y hy => by have := (q1 y hy).2; omega
 refine ⟨isL_mk ?_ (fun y hy => (q1 y hy).1) q2, q3⟩;have := ord_len l1 0 65535 (fun y hy => ⟨(q1 y hy).1, ((right_iff y).1 (q1 y hy).1).1, q3 y hy⟩) q2 (by decide);omega
def rowN (x : S61) : Bool := x.f3 == 0 && decide (x.f1 > x.f0)
def cntX (x : S61) : Nat := if rowN x = true then (x.f1 - x.f0 + 1).toNat else 0
def cntR : List S61 → Nat
 | [] => 0
 | x :: r => cntX x + cntR r
def keptN (x : S61) : Bool := !(x.f2 == 0 && (x.f3 == 0 || x.f1 == x.f0))
def keptL (l : List S61) : List S61 := l.filter keptN
def sentS : S61 := ⟨65535, 65535, 0, 1⟩
def tailS (L : List S61) : List S61 := if L.length = 0 ∨ (atS L (L.length - 1)).f1 < 65535 then [sentS] else []
def closeL (L : List S61) : List S61 := L ++ tailS L
def farS (l : List S61) : Bool := l.any (fun x => decide (x.f1 > 65535))
def segP (l : List S61) : List S61 × Int × Int :=
 if isL l = false then ([], 0, 1)
 else if farS (keptL l) = true then ([], 0, 7)
 else if 65535 < 16 + 8 * (closeL (keptL l)).length + 2 * cntR (keptL l) then ([], 0, 7)
 else (closeL (keptL l), (cntR (keptL l) : Int), 0)
def delS (x : S61) : Int := if rowN x = true then 0 else (65536 + x.f2 - x.f0) % 65536
def offsS (k : Nat) : List S61 → List Int
 | [] => []
 | x :: r => (if rowN x = true then 2 * ((r.length : Int) + 1) + 2 * (k : Int) else 0) :: offsS (k + cntX x) r
def restS (L : List S61) : List Int := L.flatMap (fun x => List.replicate (cntX x) x.f2)
def headS (n k : Nat) : List Int := [4, 16 + 8 * (n : Int) + 2 * (k : Int), 0, 2 * (n : Int), 2 * ((2 ^ n.log2 : Nat) : Int), (n.log2 : Int), 2 * (n : Int) - 2 * ((2 ^ n.log2 : Nat) : Int)]
def outS (L : List S61) (k : Nat) : List Int := headS L.length k ++ (L.map (fun x => x.f1) ++ ([0] ++ (L.map (fun x => x.f0) ++ (L.map delS ++ (offsS 0 L ++ restS L)))))
def bytesS (l : List Int) : List UInt8 := l.flatMap (fun v => bytesN v 2)
def putS (l : List S61) : ByteArray × Int :=
 if (segP l).2.2 ≠ 0 then (⟨#[]⟩, (segP l).2.2) else (⟨(bytesS (outS (segP l).1 (segP l).2.1.toNat)).toArray⟩, 0)
theorem bytesS_app (a b : List Int) : bytesS (a ++ b) = bytesS a ++ bytesS b := by unfold bytesS; rw [List.flatMap_append]
theorem bytesS_length (l : List Int) : (bytesS l).length = 2 * l.length := by
 unfold bytesS;induction l with
 | nil => rfl
 | cons x r ih => rw [List.flatMap_cons, List.length_append, ih, bytesN_length, List.length_cons]; omega
theorem w2_bytes (l : List Int) (more : List UInt8) (i : Nat) (h : i < l.length) (h0 : 0 ≤ l[i]) (h1 : l[i] ≤ 65535) : w2 ⟨(bytesS l ++ more).toArray⟩ (2 * i) = l[i] := by
 have e : bytesS l = bytesS (l.take i) ++ (bytesN l[i] 2 ++ bytesS (l.drop (i + 1))) := by
  conv => lhs; rw [← List.take_append_drop i l, List.drop_eq_getElem_cons h]
  rw [bytesS_app];rfl
 rw [e, List.append_assoc, List.append_assoc];exact w2_at _ _ _ h0 h1 _ (by rw [bytesS_length, List.length_take]; omega)
theorem offs_length : ∀ (L : List S61) (k : Nat), (offsS k L).length = L.length
 | [], _ => rfl
 | x :: r, k => by unfold offsS; rw [List.length_cons, List.length_cons, offs_length r]
theorem rest_length : ∀ (L : List S61), (restS L).length = cntR L
 | [] => rfl
 | x :: r => by
  have := rest_length r;unfold restS at this ⊢;rw [List.flatMap_cons, List.length_append, List.length_replicate, this];rfl
theorem out_length (L : List S61) (k : Nat) : (outS L k).length = 8 + 4 * L.length + cntR L := by
 unfold outS headS;simp only [List.length_append, List.length_map, List.length_cons, List.length_nil, offs_length, rest_length];omega
theorem cntR_app : ∀ (a b : List S61), cntR (a ++ b) = cntR a + cntR b
 | [], b => by simp [cntR]
 | x :: r, b => by
  have h1 : cntR (x :: r ++ b) = cntX x + cntR (r ++ b) := rfl;have h2 : cntR (x :: r) = cntX x + cntR r := rfl;rw [h1, h2, cntR_app r b]; omega
theorem offs_app : ∀ (a b : List S61) (k : Nat), (offsS k (a ++ b)).drop a.length = offsS (k + cntR a) b
 | [], b, k => by simp [cntR]
 | x :: r, b, k => by
  have h1 : (offsS k (x :: r ++ b)).drop (x :: r).length = (offsS (k + cntX x) (r ++ b)).drop r.length := rfl;have h2 : cntR (x :: r) = cntX x + cntR r := rfl;rw [h1, h2, offs_app r b, Nat.add_assoc]
theorem offs_at (L : List S61) (i : Nat) (h : i < L.length) : (offsS 0 L)[i]'(by rw [offs_length]; exact h) = if rowN L[i] = true then 2 * ((L.length - i : Nat) : Int) + 2 * (cntR (L.take i) : Int) else 0 := by
 have e : (offsS 0 L).drop i = offsS (cntR (L.take i)) (L.drop i) := by
  have := offs_app (L.take i) (L.drop i) 0;rw [List.take_append_drop, List.length_take, Nat.min_eq_left (by omega), Nat.zero_add] at this;exact this
 have e2 : ((offsS 0 L).drop i)[0]? = some ((offsS 0 L)[i]'(by rw [offs_length]; exact h)) := by
  rw [List.getElem?_drop, Nat.add_zero, List.getElem?_eq_getElem]
 have e3 : (offsS (cntR (L.take i)) (L.drop i))[0]? = some (if rowN L[i] = true then 2 * (((L.drop (i + 1)).length : Int) + 1) + 2 * (cntR (L.take i) : Int) else 0) := by
  rw [List.drop_eq_getElem_cons h]; rfl
 rw [e, e3] at e2;rw [← Option.some.inj e2, List.length_drop];have : ((L.length - (i + 1) : Nat) : Int) + 1 = ((L.length - i : Nat) : Int) := by omega
 rw [this]
theorem rest_at (L : List S61) (i : Nat) (h : i < L.length) (j : Nat) (hj : j < cntX L[i]) : (restS L)[cntR (L.take i) + j]? = some L[i].f2 := by
 have e : restS L = restS (L.take i) ++ (List.replicate (cntX L[i]) L[i].f2 ++ restS (L.drop (i + 1))) := by
  unfold restS;conv => lhs; rw [← List.take_append_drop i L, List.drop_eq_getElem_cons h]
  rw [List.flatMap_append, List.flatMap_cons]
 rw [e, List.getElem?_append_right (by rw [rest_length]; omega), rest_length, Nat.add_sub_cancel_left, List.getElem?_append_left (by rw [List.length_replicate]; exact hj), List.getElem?_replicate, if_pos hj]
attribute [local go_sem] max2_int min2_int max_two min_two
def cellsX (x : S61) : List Value := [.int .i64 x.f0, .int .i64 x.f1, .int .i64 x.f2, .int .i64 x.f3]
theorem reps_spans (W : World) (base : Nat) (ok : Nat → Prop) : ∀ (l : List S61), Reps (k61.M W base ok) 4 l (l.flatMap cellsX)
 | [] => Reps.none _ _
 | x :: r => by
  have h1 := Reps.snoc (Reps.none (k61.M W base ok) 4) (k61_mkM W base ok x) rfl;exact Kd.reps_append h1 (reps_spans W base ok r)
theorem spans_R (w : World) {base : Nat} (hb : base ≤ w.heap.size) (l : List S61) (h : l.length ≤ maxLen) : Kd.R k61 61 (w.alloc (.cells (l.flatMap cellsX).toArray 61)) base (fun _ => True) (.slice (some ⟨w.heap.size, 0, none⟩) l.length l.length) l := by
 refine ⟨fun _ _ => trivial, l.flatMap cellsX, ?_, reps_spans _ _ _ l⟩;have hl := (reps_spans w 0 (fun _ => True) l).1;exact World.ownsRow_lit (base := base) (e := 61) (size := 4) w (l.flatMap cellsX).toArray l.length hb h (by simpa using hl)
theorem near_walk (a b d : Int) (w : World) (h0 : 0 ≤ a) (h1 : a ≤ b) (h2 : b ≤ 65535) (h3 : 0 ≤ d) (h4 : d ≤ 65535) :
  Calls Tryz.prog 81 #[.int .i64 a, .int .i64 b, .int .i64 d] w fun e w' => ∃ v0_ : Value, e = .returned v0_ ∧ Kd.R k61 61 w' w.heap.size (fun _ => True) v0_ (nearF a b d) ∧ Below w.heap.size w w' := by
 have hz := (zero_of_info (P := Tryz.prog) (t := 61) (v := .agg #[.int .i64 0, .int .i64 0, .int .i64 0, .int .i64 0]) (n := 4) (by kernel_rfl)).1;have hw1 : wrap64 (a + d) = a + d := by unfold wrap64; omega
 obtain ⟨g, hg⟩ : ∃ g, g = (a + d) % 65536 := ⟨_, rfl⟩;have hgt : (a + d).tmod 65536 = g := by rw [hg]; exact Int.tmod_eq_emod_of_nonneg (by omega)
 have hg1 : (a + d) % 65536 = g := hg.symm;have hgb : 0 ≤ g ∧ g ≤ 65535 := by omega
 have hw2 : wrap64 (a + 65535) = a + 65535 := by unfold wrap64; omega
 have hw3 : wrap64 (a + 65535 - g) = a + 65535 - g := by unfold wrap64; omega
 have HX := hI (show 0 ≤ a ∧ a ≤ b ∧ b ≤ 65535 ∧ 0 ≤ d ∧ d ≤ 65535 ∧ 0 ≤ g ∧ g ≤ 65535 by omega);have HG := hI hg;clear hg hgb h0 h1 h2 h3 h4;by_cases hq : g + b - a ≤ 65535
 ·
  have HN := hI (show nearF a b d = [⟨a, b, g, 1⟩] by unfold nearF; rw [← HG.out, if_pos hq]);have hm : (if a + 65535 - g < b then a + 65535 - g else b) = b := by rw [if_neg (by omega)]
  have hm2 : min b (a + 65535 - g) = b := by omega
  have d1 : (b == b) = true := by simp
  clear hq;go_enter Tryz.func81, Tryz.ntmps81;go_wp2;go_ret;rw [HN.out];have e := spans_R (w.alloc (.cells #[.int .i64 a, .int .i64 b, .int .i64 g, .int .i64 1] 61)) (base := w.heap.size) (by simp) [⟨a, b, g, 1⟩] (by simp [maxLen]);rw [World.size_alloc] at e;exact ⟨_, rfl, e, ((Below.refl _ _).alloc (Nat.le_refl _) _).alloc (by simp) _⟩
 have HN := hI (show nearF a b d = [⟨a, a + 65535 - g, g, 1⟩, ⟨a + 65535 - g + 1, b, 0, 1⟩] by unfold nearF; rw [← HG.out, if_neg hq]);have hm : (if a + 65535 - g < b then a + 65535 - g else b) = a + 65535 - g := by rw [if_pos (by omega)]
 have hm2 : min b (a + 65535 - g) = a + 65535 - g := by omega
 have d1 : (a + 65535 - g == b) = false := by simp; omega
 have hw4 : wrap64 (a + 65535 - g + 1) = a + 65535 - g + 1 := by have := HX.out; unfold wrap64; omega
 clear hq;go_enter Tryz.func81, Tryz.ntmps81;go_wp2;go_ret;rw [HN.out];have e := spans_R (w.alloc (.cells #[.int .i64 a, .int .i64 (a + 65535 - g), .int .i64 g, .int .i64 1] 61)) (base := w.heap.size) (by simp) [⟨a, a + 65535 - g, g, 1⟩, ⟨a + 65535 - g + 1, b, 0, 1⟩] (by simp [maxLen]);rw [World.size_alloc] at e;exact ⟨_, rfl, e, ((Below.refl _ _).alloc (Nat.le_refl _) _).alloc (by simp) _⟩
end Go.Proofs.YtejdflndgnpkcaaGreat.P
end
section
namespace Go.Proofs.YtejdflndgnpkcaaGreat.P
open Go.RowKit PW PL PM
theorem clone_calls (A0 : Option Addr) (c0 : Nat) (l0 : List S61) (w : World) (hr0 : Kd.C k61 w A0 l0.length l0) (hc0 : l0.length ≤ c0) (hl : l0.length ≤ 65536) :
  Calls Tryz.prog 112 #[.slice A0 l0.length c0] w fun e w' => ∃ v0_ : Value, e = .returned (v0_) ∧ Kd.R k61 61 w' w.heap.size (fun _ => True) v0_ l0 ∧ Below w.heap.size w w' := by
 have qT : ∀ (w : World) (a : Option Addr) (n c n' c' : Nat), (binOp .eql 22 (.slice a n c) (.slice none n' c')).run Tryz.prog w = .ok (.bool a.isNone) w := fun w a n c n' c' => Lib.run_eql_slice_nil w _ _ a n c n' c' Tryz.underlying22
 have HL := hI hl;clear hl;cases A0 with
 | none =>
  have hnil : l0 = [] := by
   cases l0 with
   | nil => rfl
   | cons x xs => obtain ⟨ad, he, _⟩ := hr0.2.2 (by simp); exact absurd he (by simp)
  subst hnil;clear hr0 hc0;go_enter Tryz.func112, Tryz.ntmps112;go_wp2;go_ret;exact ⟨_, rfl, Kd.R_nil _ _ _ _ _, Below.refl _ _⟩
 | some ad =>
  have HR0 := aK hr0;have HC0 := aK hc0;clear hr0 hc0;go_enter Tryz.func112, Tryz.ntmps112;go_wp2_with (first | ((with_reducible refine gate_builtin (b := .append) (xs := #[.tmp 5, .tmp 6]) rfl ?_); at_builtin; refine Kd.R_append_rows k61 (w0 := w) w.heap.size rfl (.tmp 5) (.tmp 6) 22 61 (.agg #[(.int .i64 0), (.int .i64 0), (.int .i64 0), (.int .i64 0)]) 32 rfl Tryz.underlying22 info61 rfl (by decide) (by decide) (.slice (some ⟨w.heap.size, 0, none⟩) 0 0) ([] : List S61) l0 _ _ _ (fun _ => True) (fun _ => False) rfl rfl ?aO ?aR (fun _ _ h => h) (fun _ h => h.elim) ?aF ?aB ?aS ?aL ?_; (case aR => exact Kd.C_alloc HR0.out _); (case aB => exact below_alloc (Below.refl _ _) _); (case aF => exact (fun _ _ => trivial)); (case aO => exact spans_R w (Nat.le_refl _) [] (by simp)); (case aS => simp); (case aL => have := HL.out; simp only [List.length_nil]; omega); intro v1 w1 ho hb hg hat; have HO := aK ho; have HB := aK hb; clear ho hb hg hat))
  go_ret;exact ⟨_, rfl, HO.out, HB.out⟩
structure RowD (w0 W : World) (g cap : Nat) (xs : List S61) : Prop where
 h : ∃ cur : Array Value, W.heap[g]? = some (.cells cur 61 (0, 0)) ∧ cur.size = cap * 4 ∧ cur.toList.take (xs.length * 4) = xs.flatMap cellsX
 n : xs.length ≤ cap
 m : cap ≤ maxLen
 g0 : w0.heap.size ≤ g
 b : Below w0.heap.size w0 W
theorem flat_len (xs : List S61) : (xs.flatMap cellsX).length = xs.length * 4 := by
 induction xs with
 | nil => rfl
 | cons x r ih => rw [List.flatMap_cons, List.length_append, ih, List.length_cons]; show 4 + _ = _; omega
theorem app3 (A B C : List Value) (j : Nat) (h : A.length + B.length ≤ j) : (A ++ (B ++ C))[j]? = C[j - (A.length + B.length)]? := by
 rw [← List.append_assoc, List.getElem?_append_right (by rw [List.length_append]; exact h), List.length_append]
namespace RowD
variable {w0 W W' : World} {g cap : Nat} {xs : List S61}
theorem row (h : RowD w0 W g cap xs) {k : Nat} (hk : k ≤ xs.length) : Kd.R k61 61 W w0.heap.size (fun _ => True) (.slice (some ⟨g, 0, none⟩) k cap) (xs.take k) := by
 obtain ⟨cur, h1, h2, h3⟩ := h.h;have hkl : (xs.take k).length = k := by rw [List.length_take]; omega
 refine ⟨fun _ _ => trivial, (xs.take k).flatMap cellsX, ⟨by rw [flat_len]; rfl, .inr ⟨g, cap, cur, by rw [hkl], h.g0, h1, by rw [hkl]; exact Nat.le_trans hk h.n, h.m, h2, ?_⟩⟩, reps_spans _ _ _ _⟩;rw [hkl]
 have e : (xs.take k).flatMap cellsX = (xs.flatMap cellsX).take (k * 4) := by
  conv => rhs; rw [← List.take_append_drop k xs, List.flatMap_append]
  have hl : ((xs.take k).flatMap cellsX).length = k * 4 := by rw [flat_len, hkl]
  rw [← hl, List.take_left'];rfl
 show cur.toList.take (k * 4) = _
 rw [e, ← h3, List.take_take, Nat.min_eq_left (Nat.mul_le_mul_right 4 hk)]
theorem reads (h : RowD w0 W g cap xs) : Kd.C k61 W (some ⟨g, 0, none⟩) xs.length xs := by
 have hr := h.row (Nat.le_refl xs.length);rw [List.take_of_length_le (Nat.le_refl _)] at hr;obtain ⟨A, c, e, _, hC⟩ := Kd.R_reads hr;injection e with e1 e2 e3
 rw [e1]; exact hC
theorem of_row {v : Value} (hr : Kd.R k61 61 W w0.heap.size (fun _ => True) v xs) (hb : Below w0.heap.size w0 W) (h0 : 0 < xs.length) : ∃ g cap, v = .slice (some ⟨g, 0, none⟩) xs.length cap ∧ RowD w0 W g cap xs := by
 obtain ⟨_, inner, ⟨hl, ho⟩, hrep⟩ := hr;rcases ho with ⟨_, hz⟩ | ⟨g, cap, cur, rfl, hg, hh, hn, hm, hs, ht⟩
 · omega
 refine ⟨g, cap, rfl, ⟨cur, hh, hs, ?_⟩, hn, hm, hg, hb⟩;show cur.toList.take (xs.length * 4) = _
 have ht' : cur.toList.take (xs.length * 4) = inner := ht;rw [ht'];have h1 := hrep.1;apply List.ext_getElem?
 intro j;have hj4 : j = (j / 4) * 4 + j % 4 := by omega
 rcases Nat.lt_or_ge j (xs.length * 4) with hjl | hjl
 ·
  have hq : j / 4 < xs.length := by omega
  have e1 := hrep.2 (j / 4) xs[j / 4] (List.getElem?_eq_getElem hq);have e2 := k61_openM e1;have e3 := (reps_spans W 0 (fun _ => True) xs).2 (j / 4) xs[j / 4] (List.getElem?_eq_getElem hq);have e4 := k61_openM e3
  have f1 : ((inner.drop (j / 4 * 4)).take 4)[j % 4]? = inner[j]? := by
   rw [List.getElem?_take, if_pos (by omega), List.getElem?_drop, ← hj4]
  have f2 : (((xs.flatMap cellsX).drop (j / 4 * 4)).take 4)[j % 4]? = (xs.flatMap cellsX)[j]? := by
   rw [List.getElem?_take, if_pos (by omega), List.getElem?_drop, ← hj4]
  rw [← f1, ← f2];have e2' : (inner.drop (j / 4 * 4)).take 4 = _ := e2;have e4' : ((xs.flatMap cellsX).drop (j / 4 * 4)).take 4 = _ := e4;rw [e2', e4']
 rw [List.getElem?_eq_none (by rw [hl]; exact hjl), List.getElem?_eq_none (by rw [flat_len]; exact hjl)]
theorem below (h : RowD w0 W g cap xs) (hb : Below W.heap.size W W') : RowD w0 W' g cap xs := by
 obtain ⟨cur, h1, h2, h3⟩ := h.h;exact ⟨⟨cur, (hb.block g (blk_lt h1)).trans h1, h2, h3⟩, h.n, h.m, h.g0, below_then h.b h.b.size hb⟩
theorem frozen (h : RowD w0 W g cap xs) (j : Nat) : W.frozen? ⟨g, j, none⟩ = false := by
 obtain ⟨cur, h1, _⟩ := h.h;exact Lib.frozen_of_heap h1 j
theorem cellAt (h : RowD w0 W g cap xs) (i : Nat) (hi : i < xs.length) : W.cell? ⟨g, i * 4, none⟩ = some (.int .i64 (atS xs i).f0) ∧ W.cell? ⟨g, i * 4 + 1, none⟩ = some (.int .i64 (atS xs i).f1) ∧ W.cell? ⟨g, i * 4 + 2, none⟩ = some (.int .i64 (atS xs i).f2) ∧ W.cell? ⟨g, i * 4 + 3, none⟩ = some (.int .i64 (atS xs i).f3) := by
 obtain ⟨cur, h1, h2, h3⟩ := h.h;have e3 := (reps_spans W 0 (fun _ => True) xs).2 i xs[i] (List.getElem?_eq_getElem hi);have e4 : ((xs.flatMap cellsX).drop (i * 4)).take 4 = _ := k61_openM e3;rw [atS_get xs i hi]
 have hc : ∀ q, q < 4 → cur[i * 4 + q]? = (cellsX xs[i])[q]? := fun q hq => by
  have f1 : (((xs.flatMap cellsX).drop (i * 4)).take 4)[q]? = (xs.flatMap cellsX)[i * 4 + q]? := by
   rw [List.getElem?_take, if_pos hq, List.getElem?_drop]
  have f2 : (cur.toList.take (xs.length * 4))[i * 4 + q]? = cur[i * 4 + q]? := by
   rw [List.getElem?_take, if_pos (by omega), Array.getElem?_toList]
  rw [← f2, h3, ← f1, e4];rfl
 refine ⟨(blk_cell h1 _).trans (hc 0 (by decide)), (blk_cell h1 _).trans (hc 1 (by decide)), (blk_cell h1 _).trans (hc 2 (by decide)), (blk_cell h1 _).trans (hc 3 (by decide))⟩
def put4 (W : World) (g i : Nat) (y : S61) : World := (((W.setCell ⟨g, i * 4, none⟩ (.int .i64 y.f0)).setCell ⟨g, i * 4 + 1, none⟩ (.int .i64 y.f1)).setCell ⟨g, i * 4 + 2, none⟩ (.int .i64 y.f2)).setCell ⟨g, i * 4 + 3, none⟩ (.int .i64 y.f3)
theorem set (h : RowD w0 W g cap xs) (i : Nat) (hi : i < xs.length) (y : S61) : RowD w0 (put4 W g i y) g cap (xs.set i y) := by
 obtain ⟨cur, h1, h2, h3⟩ := h.h;have h4 := blk_set (blk_set (blk_set (blk_set h1 (i * 4) (.int .i64 y.f0)) (i * 4 + 1) (.int .i64 y.f1)) (i * 4 + 2) (.int .i64 y.f2)) (i * 4 + 3) (.int .i64 y.f3);refine ⟨⟨_, h4, by simp [h2], ?_⟩, by rw [List.length_set]; exact h.n, h.m, h.g0, (((h.b.setCell h.g0 _).setCell h.g0 _).setCell h.g0 _).setCell h.g0 _⟩;rw [List.length_set]
 have e : (xs.set i y).flatMap cellsX = (xs.take i).flatMap cellsX ++ (cellsX y ++ (xs.drop (i + 1)).flatMap cellsX) := by
  rw [List.set_eq_take_append_cons_drop, if_pos hi, List.flatMap_append, List.flatMap_cons]
 have e0 : xs.flatMap cellsX = (xs.take i).flatMap cellsX ++ (cellsX xs[i] ++ (xs.drop (i + 1)).flatMap cellsX) := by
  conv => lhs; rw [← List.take_append_drop i xs, List.drop_eq_getElem_cons hi, List.flatMap_append, List.flatMap_cons]
 have hpl : ((xs.take i).flatMap cellsX).length = i * 4 := by rw [flat_len, List.length_take]; omega
 rw [e];apply List.ext_getElem?
 intro j
 have hcur : ∀ j, j < xs.length * 4 → cur[j]? = (xs.flatMap cellsX)[j]? := fun j hj => by
  rw [← h3, List.getElem?_take, if_pos hj, Array.getElem?_toList]
 have hsz : xs.length * 4 ≤ cur.size := by rw [h2]; exact Nat.mul_le_mul_right 4 h.n
 rcases Nat.lt_or_ge j (xs.length * 4) with hj | hj
 ·
  rw [List.getElem?_take, if_pos hj, Array.getElem?_toList];simp only [Array.getElem?_setIfInBounds, Array.size_setIfInBounds];rcases Nat.lt_or_ge j (i * 4) with hj1 | hj1
  · rw [if_neg (by omega), if_neg (by omega), if_neg (by omega), if_neg (by omega), hcur j hj, e0, List.getElem?_append_left (by rw [hpl]; exact hj1), List.getElem?_append_left (by rw [hpl]; exact hj1)]
  rcases Nat.lt_or_ge j (i * 4 + 4) with hj2 | hj2
  ·
   rw [List.getElem?_append_right (by rw [hpl]; exact hj1), hpl, List.getElem?_append_left (by show _ < 4; omega)];have hq : j - i * 4 = 0 ∨ j - i * 4 = 1 ∨ j - i * 4 = 2 ∨ j - i * 4 = 3 := by omega
   rcases hq with hq | hq | hq | hq
   · rw [if_neg (by omega), if_neg (by omega), if_neg (by omega), if_pos (by omega), if_pos (by omega), hq]; rfl
   · rw [if_neg (by omega), if_neg (by omega), if_pos (by omega), if_pos (by omega), hq]; rfl
   · rw [if_neg (by omega), if_pos (by omega), if_pos (by omega), hq]; rfl
   rw [if_pos (by omega), if_pos (by omega), hq]; rfl
  rw [if_neg (by omega), if_neg (by omega), if_neg (by omega), if_neg (by omega), hcur j hj, e0, app3 _ _ _ j (by rw [hpl]; show _ + 4 ≤ _; omega), app3 _ _ _ j (by rw [hpl]; show _ + 4 ≤ _; omega)];rfl
 rw [List.getElem?_eq_none (by rw [List.length_take]; omega), List.getElem?_eq_none (by
  rw [List.length_append, hpl, List.length_append, flat_len, List.length_drop];show _ + (4 + _) ≤ _
  omega)]
end RowD
end Go.Proofs.YtejdflndgnpkcaaGreat.P
end
section
namespace Go.Proofs.YtejdflndgnpkcaaGreat.P
open Go.RowKit PW PL PM
theorem idx_nil (p : S61 → Bool) : ∀ (xs : List S61) (i : Nat), idxN p xs i = -1 → xs.filter (fun x => !p x) = xs
 | [], _, _ => rfl
 | x :: r, i, h => by
  cases hx : p x with
  | true => rw [idx_no p x r i hx] at h; omega
  | false =>
   rw [idx_yes p x r i hx] at h;rw [List.filter_cons_of_pos (by rw [hx]; rfl), idx_nil p r (i + 1) h]
theorem idx_place (p : S61 → Bool) : ∀ (xs : List S61) (i : Nat), idxN p xs i ≠ -1 → ∃ j, j < xs.length ∧ idxN p xs i = ((i + j : Nat) : Int) ∧ (xs.take (j + 1)).filter (fun x => !p x) = xs.take j
 | [], i, h => absurd rfl h
 | x :: r, i, h => by
  cases hx : p x with
  | true => exact ⟨0, by simp, by rw [idx_no p x r i hx]; rfl, by simp [hx]⟩
  | false =>
   rw [idx_yes p x r i hx] at h;obtain ⟨j, h1, h2, h3⟩ := idx_place p r (i + 1) h;refine ⟨j + 1, by simpa using h1, by rw [idx_yes p x r i hx, h2]; congr 1; omega, ?_⟩;rw [List.take_succ_cons, List.filter_cons_of_pos (by rw [hx]; rfl), h3, List.take_succ_cons]
theorem zeros_len (m : Nat) : (Builtin.zeroCells #[.int .i64 0, .int .i64 0, .int .i64 0, .int .i64 0] m).toList.length = m * 4 := by
 unfold Builtin.zeroCells;rw [Array.length_toList, Array.size_map, Array.size_range];rfl
theorem zeros_one (m : Nat) : ∀ v ∈ (Builtin.zeroCells #[.int .i64 0, .int .i64 0, .int .i64 0, .int .i64 0] m).toList, v.oneCell' = true := by
 intro v hv;have hv : v ∈ Builtin.zeroCells #[.int .i64 0, .int .i64 0, .int .i64 0, .int .i64 0] m := by simpa using hv
 unfold Builtin.zeroCells at hv;obtain ⟨i, _, rfl⟩ := Array.mem_map.1 hv;have h4 : i % 4 = 0 ∨ i % 4 = 1 ∨ i % 4 = 2 ∨ i % 4 = 3 := by omega
 have hs : (#[Value.int .i64 0, .int .i64 0, .int .i64 0, .int .i64 0] : Array Value).size = 4 := rfl;rw [hs];rcases h4 with h | h | h | h <;> rw [h] <;> rfl
theorem clear_rest {w0 W : World} {g cap : Nat} {xs : List S61} (h : RowD w0 W g cap xs) (i : Nat) (hi : i < xs.length) (c : Nat) :
  ∃ W2, (∀ ty, (Builtin.clear_ #[22] ty #[.slice (some ⟨g, i * 4, none⟩) (xs.length - i) c]).run Tryz.prog W = .ok (.tuple #[]) W2) ∧ RowD w0 W2 g cap (xs.take i) := by
 obtain ⟨cur, h1, h2, h3⟩ := h.h;have hz := (zero_of_info (P := Tryz.prog) (t := 61) (v := .agg #[.int .i64 0, .int .i64 0, .int .i64 0, .int .i64 0]) (n := 4) (by kernel_rfl)).1;obtain ⟨m, hm⟩ : ∃ m, xs.length - i = m + 1 := ⟨xs.length - i - 1, by omega⟩;obtain ⟨zs, hzs⟩ : ∃ zs, zs = (Builtin.zeroCells #[.int .i64 0, .int .i64 0, .int .i64 0, .int .i64 0] (m + 1)).toList := ⟨_, rfl⟩;have hzl : zs.length = (m + 1) * 4 := by rw [hzs, zeros_len]
 have hcn := h.n;have hst := run_storeCells_at (P := Tryz.prog) g (i * 4) 61 zs 0 cur W h1 (by rw [hzl, h2]; omega) (by rw [hzs]; exact zeros_one _);have hil : (xs.take i).length = i := by rw [List.length_take]; omega
 refine ⟨W.setRow g (cur.toList.take (i * 4 + 0) ++ zs ++ cur.toList.drop (i * 4 + 0 + zs.length)).toArray, fun ty => ?_, ⟨⟨(cur.toList.take (i * 4 + 0) ++ zs ++ cur.toList.drop (i * 4 + 0 + zs.length)).toArray, setRow_heap W g _ _ _ _ h1, ?_, ?_⟩, by rw [hil]; omega, h.m, h.g0, below_setRow h.b h.g0 _⟩⟩
 ·
  rw [hm];have hu := run_underlying (P := Tryz.prog) Tryz.underlying22;have hc : (Value.agg #[.int .i64 0, .int .i64 0, .int .i64 0, .int .i64 0]).cells = #[.int .i64 0, .int .i64 0, .int .i64 0, .int .i64 0] := rfl;rw [hzs] at hst;simp [Builtin.clear_, hu, hz, hc, hst, hzs]
 ·
  simp only [List.size_toArray, List.length_append, List.length_take, List.length_drop, Array.length_toList];rw [hzl, h2]; omega
 rw [hil];show ((cur.toList.take (i * 4 + 0) ++ zs) ++ _).take (i * 4) = _
 rw [Nat.add_zero, List.append_assoc, List.take_append_of_le_length (by rw [List.length_take, Array.length_toList, h2]; omega), List.take_take, Nat.min_self]
 have e : (xs.take i).flatMap cellsX = (xs.flatMap cellsX).take (i * 4) := by
  conv => rhs; rw [← List.take_append_drop i xs, List.flatMap_append]
  have hl : ((xs.take i).flatMap cellsX).length = i * 4 := by rw [flat_len, hil]
  rw [← hl, List.take_left'];rfl
 rw [e, ← h3, List.take_take, Nat.min_eq_left (by omega)]
theorem del_walk (K : Nat) (p : S61 → Bool) (hp : ∀ (x : S61) (W : World), Calls Tryz.prog K #[.agg #[.int .i64 x.f0, .int .i64 x.f1, .int .i64 x.f2, .int .i64 x.f3]] W fun e w' => e = .returned (.bool (p x)) ∧ Below W.heap.size W w') (he : EntersK K)
  (w0 w : World) (v : Value) (xs : List S61) (hr : Kd.R k61 61 w w0.heap.size (fun _ => True) v xs) (hb : Below w0.heap.size w0 w) (hl : xs.length ≤ 65536) :
  Calls Tryz.prog 111 #[v, .func (.func K) #[] #[]] w fun e w' => ∃ v0_ : Value, e = .returned v0_ ∧ Kd.R k61 61 w' w0.heap.size (fun _ => True) v0_ (xs.filter (fun x => !p x)) ∧ Below w0.heap.size w0 w' := by
 obtain ⟨A, c, rfl, _, hC⟩ := Kd.R_reads hr;have HI := hI (index_calls K #[] p A c xs w hC (fun x W _ => hp x W) he);have HP := hI hp;have HL := hI hl;by_cases hidx : idxN p xs 0 = -1
 ·
  have HR := hI hr;have HB := hI hb;have HF := hI (idx_nil p xs 0 hidx);rw [hidx] at HI;clear hr hb hl hp hC hidx he;go_enter Tryz.func111, Tryz.ntmps111;go_wp2_with fail
  refine HI.out.mono ?_;rintro e w1 ⟨rfl, hb1⟩;have HR1 := hI (Kd.R_below HR.out hb1);have HB1 := hI (below_then HB.out HB.out.size hb1);clear hb1;go_wp2;go_ret;rw [HF.out];exact ⟨_, rfl, HR1.out, HB1.out⟩
 obtain ⟨j0, hj0, hj1, hj2⟩ := idx_place p xs 0 hidx;obtain ⟨g, cap, hv, hD⟩ := RowD.of_row hr hb (by omega);injection hv with hv1 hv2 hv3
 subst hv1;subst hv3;rw [hj1, Nat.zero_add] at HI;have HD := hI hD;have HJ := hI hj2;have HJ0 := hI hj0;obtain ⟨n, hn⟩ : ∃ n, n = xs.length := ⟨_, rfl⟩;rw [← hn] at HI ⊢;have HN := hI hn;have dm : ((j0 : Int) == -1) = false := beq_eq_false_iff_ne.2 (by omega);have hw0 : wrap64 ((j0 : Int) + 1) = ((j0 + 1 : Nat) : Int) := by unfold wrap64; omega
 unfold EntersK at he;clear hr hb hl hp hC hidx hD hj0 hj1 hj2 hn hv2;go_enter Tryz.func111, Tryz.ntmps111;go_wp2_with fail
 refine HI.out.mono ?_;rintro e w1 ⟨rfl, hb1⟩;have HD1 := hI (HD.out.below hb1);clear hb1;go_wp2_with fail
 go_loopw [5, 6] (fun v5 v6 wr => ∃ (i j : Nat) (ys : List S61), i < j ∧ j ≤ n ∧ v5 = .int .i64 (i : Int) ∧ v6 = .int .i64 (j : Int) ∧ Aside0 (ys.length = n ∧ ys.take i = (xs.take j).filter (fun x => !p x) ∧ ys.drop j = xs.drop j) ∧ Aside0 (RowD w0 wr g c ys)) (fun _ v6 _ => n - (intOf v6).toNat)
 case atStart => exact ⟨j0, j0 + 1, xs, Nat.lt_succ_self _, by have := HJ0.out; have := HN.out; omega, rfl, by rw [hw0], ⟨⟨HN.out.symm, HJ.out.symm, rfl⟩⟩, ⟨HD1.out⟩⟩
 case round =>
  obtain ⟨i, j, ys, hij, hj, rfl, rfl, HY, HW⟩ := hrel;clear hw0;by_cases hlt : j < n
  ·
   have p0 : (0 : Int) ≤ (j : Int) := by omega
   have p1 : (j : Int) < (n : Int) := by omega
   have r0 : (0 : Int) ≤ (i : Int) := by omega
   have r1 : (i : Int) < (n : Int) := by omega
   have d3 : decide ((j : Int) < (n : Int)) = true := decide_eq_true p1;have hwj : wrap64 ((j : Int) + 1) = ((j + 1 : Nat) : Int) := by have := HL.out; have := HN.out; unfold wrap64; omega
   have hwi : wrap64 ((i : Int) + 1) = ((i + 1 : Nat) : Int) := by have := HL.out; have := HN.out; unfold wrap64; omega
   have hjl : j < ys.length := by rw [HY.out.1]; exact hlt
   have hil : i < ys.length := by rw [HY.out.1]; omega
   obtain ⟨x0, x1, x2, x3⟩ := HW.out.cellAt j hjl;obtain ⟨x, hx⟩ : ∃ x, x = atS ys j := ⟨_, rfl⟩;rw [← hx] at x0 x1 x2 x3
   have hxj : xs.drop j = x :: xs.drop (j + 1) := by
    have hjx : j < xs.length := by rw [← HN.out]; exact hlt
    have h1 := HY.out.2.2;rw [List.drop_eq_getElem_cons hjl, List.drop_eq_getElem_cons hjx] at h1;rw [List.drop_eq_getElem_cons hjx, hx, atS_get ys j hjl, (List.cons.inj h1).1]
   have HXJ := hI hxj
   have HYJ := hI (show ys.drop (j + 1) = xs.drop (j + 1) by
    have h1 := HY.out.2.2;rw [hxj, List.drop_eq_getElem_cons hjl] at h1;exact (List.cons.inj h1).2)
   have HTJ := hI (show xs.take (j + 1) = xs.take j ++ [x] by
    have hjx : j < xs.length := by rw [← HN.out]; exact hlt
    rw [List.take_add_one, List.getElem?_eq_getElem hjx];rw [List.drop_eq_getElem_cons hjx] at hxj;rw [(List.cons.inj hxj).1]; rfl)
   have HIJ := hI hij;have HLT := hI hlt;have HIL := hI hil;clear hx hxj hij hlt hjl hil hj;replace p0 := eq_true p0;replace p1 := eq_true p1;replace r0 := eq_true r0;replace r1 := eq_true r1;go_wp2_with fail
   refine (HP.out x _).mono ?_;rintro e w2 ⟨rfl, hb2⟩;obtain ⟨wx, hwx⟩ : ∃ wx, wx = wr.alloc (.cells #[.int .i64 x.f0, .int .i64 x.f1, .int .i64 x.f2, .int .i64 x.f3] 61) := ⟨_, rfl⟩;rw [← hwx] at hb2;have hbx : Below wr.heap.size wr wx := by rw [hwx]; exact (Below.refl _ wr).alloc (Nat.le_refl _) _
   have hbox0 : wx.heap[wr.heap.size]? = some (.cells #[.int .i64 x.f0, .int .i64 x.f1, .int .i64 x.f2, .int .i64 x.f3] 61 (0, 0)) := by rw [hwx]; exact World.alloc_heap_new wr _
   have hszx : wr.heap.size < wx.heap.size := by rw [hwx]; simp
   have hbox := (hb2.block wr.heap.size hszx).trans hbox0;have HW2 := hI (HW.out.below (hbx.trans (hb2.mono hbx.size)));have b0 : w2.cell? ⟨wr.heap.size, 0, none⟩ = some (.int .i64 x.f0) := (blk_cell hbox 0).trans rfl;have b1 : w2.cell? ⟨wr.heap.size, 1, none⟩ = some (.int .i64 x.f1) := (blk_cell hbox 1).trans rfl;have b2 : w2.cell? ⟨wr.heap.size, 2, none⟩ = some (.int .i64 x.f2) := (blk_cell hbox 2).trans rfl;have b3 : w2.cell? ⟨wr.heap.size, 3, none⟩ = some (.int .i64 x.f3) := (blk_cell hbox 3).trans rfl;clear hb2 hwx hbx hbox0 hszx hbox x0 x1 x2 x3;cases hpx : p x with
   | true =>
    have HF := hI (show ys.take i = (xs.take (j + 1)).filter (fun x => !p x) by
     rw [HTJ.out, List.filter_append, HY.out.2.1, List.filter_cons_of_neg (by rw [hpx]; decide)];simp)
    clear hpx b0 b1 b2 b3;go_wp2;go_roundw
    case rel => exact ⟨i, j + 1, ys, Nat.lt_succ_of_lt HIJ.out, HLT.out, rfl, by rw [hwj], ⟨⟨HY.out.1, HF.out, HYJ.out⟩⟩, ⟨HW2.out⟩⟩
    case measure => rw [hwj]; exact less_step (by decide) HLT.out
   | false =>
    obtain ⟨y0, y1, y2, y3⟩ := HW2.out.cellAt i HIL.out;have z0 := HW2.out.frozen (i * 4);have z1 := HW2.out.frozen (i * 4 + 1);have z2 := HW2.out.frozen (i * 4 + 2);have z3 := HW2.out.frozen (i * 4 + 3);have HW3 := hI (HW2.out.set i HIL.out x)
    have HF := hI (show (ys.set i x).take (i + 1) = (xs.take (j + 1)).filter (fun x => !p x) by
     rw [HTJ.out, List.filter_append, ← HY.out.2.1, List.filter_cons_of_pos (by rw [hpx]; rfl), List.filter_nil, List.take_add_one, List.getElem?_set_self (by rw [HY.out.1]; have := HIJ.out; have := HLT.out; omega), List.take_set_of_le (Nat.le_refl _)];rfl)
    have HG := hI (show (ys.set i x).drop (j + 1) = xs.drop (j + 1) by
     rw [List.drop_set_of_lt (by have := HIJ.out; omega)]; exact HYJ.out)
    have HS := hI (show (ys.set i x).length = n by rw [List.length_set]; exact HY.out.1);clear hpx;go_wp2;go_roundw
    case rel => exact ⟨i + 1, j + 1, ys.set i x, Nat.succ_lt_succ HIJ.out, HLT.out, by rw [hwi], by rw [hwj], ⟨⟨HS.out, HF.out, HG.out⟩⟩, ⟨HW3.out⟩⟩
    case measure => rw [hwj]; exact less_step (by decide) HLT.out
  have hjn : j = n := by omega
  subst hjn;have d3 : decide ((j : Int) < (j : Int)) = false := decide_eq_false (by omega);have hil : i < ys.length := by rw [HY.out.1]; exact hij
  have hyj := HY.out.1;obtain ⟨W2, hcl, hW2⟩ := clear_rest HW.out i hil (c - i);rw [hyj] at hcl;have hci : (c = i) = False := eq_false (by have := HW.out.n; omega);have hic : i ≤ c := by have := HW.out.n; omega
  have hfil : ys.take i = xs.filter (fun x => !p x) := by
   have := HY.out.2.1;rw [List.take_of_length_le (l := xs) (by have := HN.out; omega)] at this;exact this
  have hrow := hW2.row (Nat.le_refl _);rw [List.take_of_length_le (Nat.le_refl _), hfil] at hrow;have hil2 : (xs.filter (fun x => !p x)).length = i := by rw [← hfil, List.length_take]; omega
  rw [hil2] at hrow;have HRO := hI hrow;have HB2 := hI hW2.b;have q0 : (0 : Int) ≤ (i : Int) := by omega
  have q1 : (i : Int) ≤ (j : Int) := by omega
  have q2 : (i : Int) ≤ (c : Int) := by omega
  clear hW2 hrow hfil hil hyj hlt hj hil2;go_wp2;go_ret;exact ⟨_, rfl, HRO.out, HB2.out⟩
attribute [local go_sem] max2_int min2_int max_two min_two max_three min_three max_four min_four
def segment_segments_1.f (a0_0 : Int) (a0_1 : Int) (a0_2 : Int) (a0_3 : Int) : Option (Bool) := if a0_2 = 0 then (if a0_3 = 0 then (some true) else (some (a0_1 == a0_0))) else (some false)
theorem segment_segments_1.calls (a0_0 : Int) (a0_1 : Int) (a0_2 : Int) (a0_3 : Int) (r : Bool) (w : World) (h : segment_segments_1.f a0_0 a0_1 a0_2 a0_3 = some r) :
  Calls Tryz.prog 113 #[.agg #[.int .i64 a0_0, .int .i64 a0_1, .int .i64 a0_2, .int .i64 a0_3]] w fun e w' => e = .returned (.bool r) ∧ Below w.heap.size w w' := by
 have hu61 := Tryz.underlying61;have HB := aK (Below.refl w.heap.size w);have H : (if a0_2 = 0 then (if a0_3 = 0 then (some true) else (some (a0_1 == a0_0))) else (some false)) = some r := h;clear h;replace H := qF H;rcases H with ⟨c2b0, c2b1, H⟩ | ⟨c2b0, c2b1, H⟩
 ·
  replace H := qF H;rcases H with ⟨c3b0, c3b1, H⟩ | ⟨c3b0, c3b1, H⟩
  ·
   obtain rfl := Option.some.inj H;go_enter Tryz.func113, Tryz.ntmps113;go_wp2_with (first | ((with_reducible refine gate_dst (N := 1) rfl ?_); refine box4 1 61 a0_0 a0_1 a0_2 a0_3 ?_; clear HB; intro gb526 w4 BK526 GW526 GE526 HB hcz5_0 hcz5_1 hcz5_2 hcz5_3 hfz5_0 hfz5_1 hfz5_2 hfz5_3))
   go_ret;exact ⟨eA, bG GE526.out⟩
  obtain rfl := Option.some.inj H;go_enter Tryz.func113, Tryz.ntmps113;go_wp2_with (first | ((with_reducible refine gate_dst (N := 1) rfl ?_); refine box4 1 61 a0_0 a0_1 a0_2 a0_3 ?_; clear HB; intro gb526 w6 BK526 GW526 GE526 HB hcz7_0 hcz7_1 hcz7_2 hcz7_3 hfz7_0 hfz7_1 hfz7_2 hfz7_3))
  go_ret;exact ⟨eA, bG GE526.out⟩
 obtain rfl := Option.some.inj H;go_enter Tryz.func113, Tryz.ntmps113;go_wp2_with (first | ((with_reducible refine gate_dst (N := 1) rfl ?_); refine box4 1 61 a0_0 a0_1 a0_2 a0_3 ?_; clear HB; intro gb526 w8 BK526 GW526 GE526 HB hcz9_0 hcz9_1 hcz9_2 hcz9_3 hfz9_0 hfz9_1 hfz9_2 hfz9_3))
 go_ret;exact ⟨eA, bG GE526.out⟩
def segment_row.f (a0_0 : Int) (a0_1 : Int) (a0_2 : Int) (a0_3 : Int) : Option (Bool) := if a0_3 = 0 then (some (decide (a0_1 > a0_0))) else (some false)
theorem segment_row.calls (a0_0 : Int) (a0_1 : Int) (a0_2 : Int) (a0_3 : Int) (r : Bool) (w : World) (h : segment_row.f a0_0 a0_1 a0_2 a0_3 = some r) :
  Calls Tryz.prog 90 #[.agg #[.int .i64 a0_0, .int .i64 a0_1, .int .i64 a0_2, .int .i64 a0_3]] w fun e w' => e = .returned (.bool r) ∧ Below w.heap.size w w' := by
 have hu61 := Tryz.underlying61;have HB := aK (Below.refl w.heap.size w);have H : (if a0_3 = 0 then (some (decide (a0_1 > a0_0))) else (some false)) = some r := h;clear h;replace H := qF H;rcases H with ⟨c2b0, c2b1, H⟩ | ⟨c2b0, c2b1, H⟩
 ·
  obtain rfl := Option.some.inj H;go_enter Tryz.func90, Tryz.ntmps90;go_wp2_with (first | ((with_reducible refine gate_dst (N := 1) rfl ?_); refine box4 1 61 a0_0 a0_1 a0_2 a0_3 ?_; clear HB; intro gb218 w3 BK218 GW218 GE218 HB hcz4_0 hcz4_1 hcz4_2 hcz4_3 hfz4_0 hfz4_1 hfz4_2 hfz4_3))
  go_ret;exact ⟨eA, bG GE218.out⟩
 obtain rfl := Option.some.inj H;go_enter Tryz.func90, Tryz.ntmps90;go_wp2_with (first | ((with_reducible refine gate_dst (N := 1) rfl ?_); refine box4 1 61 a0_0 a0_1 a0_2 a0_3 ?_; clear HB; intro gb218 w5 BK218 GW218 GE218 HB hcz6_0 hcz6_1 hcz6_2 hcz6_3 hfz6_0 hfz6_1 hfz6_2 hfz6_3))
 go_ret;exact ⟨eA, bG GE218.out⟩
end Go.Proofs.YtejdflndgnpkcaaGreat.P
end
