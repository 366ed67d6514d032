/- Words, contracts and plain facts of the proof. Each says its own condition. -/
import Derived.Test.YtejdflndgnpkcaaGreatZCmapDoesq
set_option linter.unusedVariables false
set_option linter.unusedSimpArgs false
namespace Go.Proofs.YtejdflndgnpkcaaGreat.P
open Go.RowKit PW PL PM
theorem spans_mem : ∀ (L : List Int) (a : Int) (x : S61), x ∈ spansN a L → x.f0 = x.f1 ∧ a ≤ x.f0 ∧ x.f0 < a + L.length ∧ x.f2 ≠ 0 ∧ x.f3 = 1 ∧ x.f2 ∈ L
 | [], a, x, h => by simp [spansN] at h
 | g :: r, a, x, h => by
  unfold spansN at h;by_cases hg : g = 0
  ·
   rw [if_pos hg] at h;obtain ⟨h1, h2, h3, h4, h5, h6⟩ := spans_mem r (a + 1) x h;refine ⟨h1, by omega, by rw [List.length_cons]; omega, h4, h5, List.mem_cons_of_mem _ h6⟩
  rw [if_neg hg] at h;rcases List.mem_cons.1 h with e | hm
  ·
   rw [e];refine ⟨rfl, Int.le_refl _, by simp; omega, hg, rfl, List.mem_cons_self⟩
  obtain ⟨h1, h2, h3, h4, h5, h6⟩ := spans_mem r (a + 1) x hm;refine ⟨h1, by omega, by rw [List.length_cons]; omega, h4, h5, List.mem_cons_of_mem _ h6⟩
theorem ord_mk {x : S61} {l : List S61} (h : ∀ y ∈ l, x.f1 < y.f0) (ho : ordN l = true) : ordN (x :: l) = true := by
 cases l with
 | nil => rfl
 | cons y r => rw [ord_step, decide_eq_true (h y List.mem_cons_self), Bool.true_and]; exact ho
theorem spans_ord : ∀ (L : List Int) (a : Int), ordN (spansN a L) = true
 | [], a => rfl
 | g :: r, a => by
  unfold spansN;by_cases hg : g = 0
  · rw [if_pos hg]; exact spans_ord r (a + 1)
  rw [if_neg hg];refine ord_mk (fun y hy => ?_) (spans_ord r (a + 1));have := (spans_mem r (a + 1) y hy).2.1;show a < y.f0
  omega
theorem spans_right {L : List Int} {a : Int} (ha : 0 ≤ a) (hb : a + L.length ≤ 65536) (hL : ∀ g ∈ L, 0 ≤ g ∧ g ≤ 65535) : ∀ x ∈ spansN a L, rightN x = true := fun x hx => by
 obtain ⟨h1, h2, h3, h4, h5, h6⟩ := spans_mem L a x hx;have := hL _ h6;rw [right_iff];refine ⟨by omega, by omega, by omega, .inr h5, by omega, by omega, ?_⟩;rw [h1, show x.f1 - x.f1 = 0 by omega, Int.mul_zero]; omega
theorem spans_isL {L : List Int} {a : Int} (ha : 0 ≤ a) (hb : a + L.length ≤ 65536) (hL : ∀ g ∈ L, 0 ≤ g ∧ g ≤ 65535) : isL (spansN a L) = true :=
 isL_mk (by have := spans_len a L a; omega) (spans_right ha hb hL) (spans_ord L a)
theorem spans_lin : ∀ (L : List Int) (a c : Int), linN (spansN a L) c = if a ≤ c ∧ c < a + L.length then L.getD (c - a).toNat 0 else 0
 | [], a, c => by
  rw [if_neg (by rw [List.length_nil]; omega)];rfl
 | g :: r, a, c => by
  have ih := spans_lin r (a + 1) c
  have hcons : ∀ (h : a + 1 ≤ c), (g :: r).getD (c - a).toNat 0 = r.getD (c - (a + 1)).toNat 0 := fun h => by
   have : (c - a).toNat = (c - (a + 1)).toNat + 1 := by omega
   rw [this]; rfl
  unfold spansN;have hlen : ((g :: r).length : Int) = r.length + 1 := by simp
  by_cases hg : g = 0
  ·
   rw [if_pos hg, ih, hlen];by_cases hc : a = c
   ·
    subst hc;rw [if_neg (by omega), if_pos (by omega), show (a - a).toNat = 0 by omega, hg];rfl
   by_cases h2 : a + 1 ≤ c ∧ c < a + 1 + r.length
   · rw [if_pos h2, if_pos (by omega), hcons h2.1]
   rw [if_neg h2, if_neg (by omega)]
  rw [if_neg hg];conv => lhs; unfold linN
  rw [ih, hlen];simp only;by_cases hc : a = c
  ·
   subst hc;rw [if_pos ⟨Int.le_refl _, Int.le_refl _⟩, if_pos (by omega), show (a - a).toNat = 0 by omega, show a - a = 0 by omega, Int.mul_zero, Int.add_zero];rfl
  rw [if_neg (by omega)];by_cases h2 : a + 1 ≤ c ∧ c < a + 1 + r.length
  · rw [if_pos h2, if_pos (by omega), hcons h2.1]
  rw [if_neg h2, if_neg (by omega)]
theorem lin_has : ∀ (l : List S61) (c : Int), (∀ y ∈ l, rightN y = true) → linN l c ≠ 0 → ∃ x ∈ l, hasN x = true ∧ fstAt x ≤ c ∧ c ≤ x.f1
 | [], c, _, h => absurd rfl h
 | x :: r, c, hr, h => by
  unfold linN at h;have hx := hr x List.mem_cons_self;by_cases hc : x.f0 ≤ c ∧ c ≤ x.f1
  ·
   rw [if_pos hc] at h;obtain ⟨a0, a1, a2, a3, a4, a5, a6⟩ := (right_iff x).1 hx;refine ⟨x, List.mem_cons_self, ?_, ?_, hc.2⟩
   ·
    rw [has_iff hx];rcases a3 with h3 | h3
    · rw [h3, Int.zero_mul] at h; omega
    rw [h3, Int.one_mul] at h; omega
   rw [fst_val hx];by_cases h2 : x.f2 = 0
   ·
    rw [if_pos h2];rcases a3 with h3 | h3
    · rw [h3, Int.zero_mul] at h; omega
    rw [h3, Int.one_mul] at h; omega
   rw [if_neg h2]; exact hc.1
  rw [if_neg hc] at h;obtain ⟨y, hy, h1⟩ := lin_has r c (fun q hq => hr q (List.mem_cons_of_mem _ hq)) h;exact ⟨y, List.mem_cons_of_mem _ hy, h1⟩
theorem last_ge : ∀ (l : List S61) (a : Int), (∀ y ∈ l, rightN y = true) → ordN l = true → ∀ x ∈ l, hasN x = true → x.f1 ≤ lastN a l
 | [], a, _, _, x, hx, _ => by simp at hx
 | z :: r, a, hr, ho, x, hx, hh => by
  have hr' := fun q hq => hr q (List.mem_cons_of_mem _ hq)
  rw [last_step];rcases List.mem_cons.1 hx with e | hm
  ·
   subst e;rw [hh, if_pos rfl];refine (last_in r x.f1 hr' (fun y hy => ?_) (ord_cons ho)).1;have := ord_head hr' ho y hy;obtain ⟨_, a1, _⟩ := (right_iff y).1 (hr' y hy);omega
  exact last_ge r _ hr' (ord_cons ho) x hm hh
theorem ends_hold : ∀ (l : List S61), (∀ y ∈ l, rightN y = true) → ordN l = true → ∀ x ∈ l, hasN x = true → (endsN l).2.2 = true ∧ (endsN l).1 ≤ fstAt x ∧ x.f1 ≤ (endsN l).2.1
 | [], _, _, x, hx, _ => by simp at hx
 | z :: r, hr, ho, x, hx, hh => by
  have hr' := fun q hq => hr q (List.mem_cons_of_mem _ hq)
  unfold endsN;cases hq : hasN z with
  | true =>
   rw [if_pos rfl];refine ⟨rfl, ?_, last_ge (z :: r) _ hr ho x hx hh⟩;rcases List.mem_cons.1 hx with e | hm
   · rw [e]; exact Int.le_refl _
   have h1 := ord_head hr' ho x hm;have h2 := fst_in (hr z List.mem_cons_self) hq;have h3 := fst_in (hr' x hm) hh;show fstAt z ≤ fstAt x
   omega
  | false =>
   rw [if_neg Bool.false_ne_true];rcases List.mem_cons.1 hx with e | hm
   · rw [e, hq] at hh; exact absurd hh (by decide)
   exact ends_hold r hr' (ord_cons ho) x hm hh
theorem look_in {l : List S61} (h : isL l = true) {c : Int} (hc : lookN l c ≠ 0) : (endsN l).2.2 = true ∧ (endsN l).1 ≤ c ∧ c ≤ (endsN l).2.1 := by
 obtain ⟨_, h1, h2⟩ := isL_all h;rw [look_lin h1 h2] at hc;obtain ⟨x, hx, hh, h3, h4⟩ := lin_has l c h1 hc;obtain ⟨h5, h6, h7⟩ := ends_hold l h1 h2 x hx hh;exact ⟨h5, by omega, by omega⟩
theorem w2_at (pre : List UInt8) (v : Int) (r : List UInt8) (h0 : 0 ≤ v) (h1 : v ≤ 65535) (p : Nat) (hp : pre.length = p) : w2 ⟨(pre ++ (bytesN v 2 ++ r)).toArray⟩ p = v := by
 unfold w2;rw [← hp, ba_drop];exact take_bytes (s := 2) (by decide) (fits2 h0 h1) r
theorem w1_at (pre : List UInt8) (b : UInt8) (r : List UInt8) (p : Nat) (hp : pre.length = p) : w1 ⟨(pre ++ (b :: r)).toArray⟩ p = (b.toNat : Int) := by
 rw [w1_bt _ _ (by rw [ba_size, List.length_append, List.length_cons]; omega), bt_at _ _ (by rw [List.length_append, List.length_cons]; omega)];subst hp;simp
theorem smallB_length (l : List S61) : (smallB l).length = 262 := by unfold smallB; simp
theorem byteG_val {l : List S61} (h : isL l = true) {c : Nat} (hc : lookN l (c : Int) < 256) : ((byteG l c).toNat : Int) = lookN l (c : Int) := by
 have := look_bd h (c : Int);unfold byteG;have e : lookN l (c : Int) % 256 = lookN l (c : Int) := by omega
 rw [e];simp
 omega
theorem small_get {l : List S61} (h : isL l = true) (hok : smallOk l = true) : getC ⟨(smallB l).toArray⟩ = (spansN 0 ((List.range 256).map (fun c : Nat => lookN l (c : Int))), 0) := by
 have hsz : (⟨(smallB l).toArray⟩ : ByteArray).size = 262 := by rw [ba_size, smallB_length]
 obtain ⟨R, hR⟩ : ∃ R, R = (List.range 256).map (byteG l) := ⟨_, rfl⟩;have b0 : bytesN 0 2 = [0, 0] := by decide +kernel
 have b1 : bytesN 262 2 = [1, 6] := by decide +kernel
 have hS : smallB l = [0, 0, 1, 6, 0, 0] ++ R := by rw [hR]; rfl
 have e0 : w2 ⟨(smallB l).toArray⟩ 0 = 0 := by
  have : smallB l = [] ++ (bytesN 0 2 ++ ([1, 6, 0, 0] ++ R)) := by rw [hS, b0]; rfl
  rw [this]; exact w2_at _ _ _ (by decide) (by decide) 0 rfl
 have e2 : w2 ⟨(smallB l).toArray⟩ 2 = 262 := by
  have : smallB l = [0, 0] ++ (bytesN 262 2 ++ ([0, 0] ++ R)) := by rw [hS, b1]; rfl
  rw [this]; exact w2_at _ _ _ (by decide) (by decide) 2 rfl
 clear hS hR R
 have e3 : (List.range 256).map (fun i => w1 ⟨(smallB l).toArray⟩ (6 + i)) = (List.range 256).map (fun c : Nat => lookN l (c : Int)) := by
  apply List.map_congr_left
  intro i hi;have hi' := List.mem_range.1 hi;have hlt : lookN l (i : Int) < 256 := of_decide_eq_true (List.all_eq_true.1 hok i hi);rw [← byteG_val h hlt]
  have hsplit : (List.range 256).map (byteG l) = ((List.range 256).map (byteG l)).take i ++ (byteG l i :: ((List.range 256).map (byteG l)).drop (i + 1)) := by
   have hl : i < ((List.range 256).map (byteG l)).length := by simpa using hi'
   have hg : ((List.range 256).map (byteG l))[i] = byteG l i := by simp
   rw [← hg, ← List.drop_eq_getElem_cons hl, List.take_append_drop]
  have hB : smallB l = ([0, 0, 1, 6, 0, 0] ++ ((List.range 256).map (byteG l)).take i) ++ (byteG l i :: ((List.range 256).map (byteG l)).drop (i + 1)) := by
   unfold smallB;conv => lhs; rw [hsplit]
   rw [List.append_assoc]
  rw [hB];exact w1_at _ _ _ (6 + i) (by simp; omega)
 unfold getC;rw [hsz, if_neg (by decide), e0, if_pos rfl, e2, if_pos rfl, if_pos (by decide), e3]
theorem small_back {l : List S61} (h : isL l = true) (hb : (endsN l).2.1 < 256) (c : Int) (hg : ∀ g ∈ (List.range 256).map (fun c : Nat => lookN l (c : Int)), 0 ≤ g ∧ g ≤ 65535) : glyphOf (spansN 0 ((List.range 256).map (fun c : Nat => lookN l (c : Int)))) c = lookN l c := by
 have hi := spans_isL (a := 0) (L := (List.range 256).map (fun c : Nat => lookN l (c : Int))) (by decide) (by simp) hg;obtain ⟨_, i1, i2⟩ := isL_all hi;unfold glyphOf;rw [if_pos hi, look_lin i1 i2, spans_lin];simp only [List.length_map, List.length_range];by_cases hc : 0 ≤ c ∧ c < 0 + ((256 : Nat) : Int)
 ·
  rw [if_pos hc];obtain ⟨n, rfl⟩ := Int.eq_ofNat_of_zero_le hc.1;have e : ((n : Int) - 0).toNat = n := by omega
  have hn : n < 256 := by omega
  rw [e, List.getD_eq_getElem?_getD, List.getElem?_map, List.getElem?_range hn];rfl
 rw [if_neg hc];by_cases h0 : lookN l c = 0
 · exact h0.symm
 obtain ⟨h1, h2, h3⟩ := look_in h h0;obtain ⟨_, h4, h5⟩ := isL_all h;rcases ends_in l h4 h5 with ⟨h6, _⟩ | ⟨a, b, h6, h7, h8, h9⟩
 · rw [h6] at h1; exact absurd h1 (by decide)
 rw [h6] at h2 h3 hb;simp only at h2 h3 hb;omega
theorem looks_bd {l : List S61} (h : isL l = true) (a : Int) (m : Nat) : ∀ g ∈ (List.range m).map (fun i : Nat => lookN l (a + (i : Int))), 0 ≤ g ∧ g ≤ 65535 := fun g hg => by
 obtain ⟨i, _, rfl⟩ := List.mem_map.1 hg;exact look_bd h _
theorem trim_get {l : List S61} (h : isL l = true) {a : Int} {m : Nat} (ha : 0 ≤ a) (ha2 : a + m ≤ 65536) (ha3 : a ≤ 65535) (hm : m ≤ 32762) (more : List UInt8) : getC ⟨(headT a m ++ glyphsT l a m ++ more).toArray⟩ = (spansN a ((List.range m).map (fun i : Nat => lookN l (a + (i : Int)))), 0) := by
 obtain ⟨B, hB⟩ : ∃ B, B = headT a m ++ glyphsT l a m ++ more := ⟨_, rfl⟩;have hsz : (⟨B.toArray⟩ : ByteArray).size = 10 + 2 * m + more.length := by rw [ba_size, hB, List.length_append, List.length_append, headT_length, glyphsT_length]
 have e0 : w2 ⟨B.toArray⟩ 0 = 6 := by
  have : B = [] ++ (bytesN 6 2 ++ (bytesN (10 + 2 * (m : Int)) 2 ++ (bytesN 0 2 ++ (bytesN a 2 ++ (bytesN (m : Int) 2 ++ []))) ++ glyphsT l a m ++ more)) := by rw [hB]; unfold headT; simp
  rw [this]; exact w2_at _ _ _ (by decide) (by decide) 0 rfl
 have e2 : w2 ⟨B.toArray⟩ 2 = 10 + 2 * (m : Int) := by
  have : B = bytesN 6 2 ++ (bytesN (10 + 2 * (m : Int)) 2 ++ ((bytesN 0 2 ++ (bytesN a 2 ++ (bytesN (m : Int) 2 ++ []))) ++ glyphsT l a m ++ more)) := by rw [hB]; unfold headT; simp
  rw [this]; exact w2_at _ _ _ (by omega) (by omega) 2 (bytesN_length _ _)
 have e6 : w2 ⟨B.toArray⟩ 6 = a := by
  have : B = (bytesN 6 2 ++ bytesN (10 + 2 * (m : Int)) 2 ++ bytesN 0 2) ++ (bytesN a 2 ++ ((bytesN (m : Int) 2 ++ []) ++ glyphsT l a m ++ more)) := by rw [hB]; unfold headT; simp
  rw [this]; exact w2_at _ _ _ ha ha3 6 (by simp [bytesN_length])
 have e8 : w2 ⟨B.toArray⟩ 8 = (m : Int) := by
  have : B = (bytesN 6 2 ++ bytesN (10 + 2 * (m : Int)) 2 ++ bytesN 0 2 ++ bytesN a 2) ++ (bytesN (m : Int) 2 ++ (glyphsT l a m ++ more)) := by rw [hB]; unfold headT; simp
  rw [this]; exact w2_at _ _ _ (by omega) (by omega) 8 (by simp [bytesN_length])
 have e3 : (List.range m).map (fun i => w2 ⟨B.toArray⟩ (10 + 2 * i)) = (List.range m).map (fun i : Nat => lookN l (a + (i : Int))) := by
  apply List.map_congr_left
  intro i hi;have hi' := List.mem_range.1 hi;have hb := look_bd h (a + (i : Int))
  have hsplit : ∀ n, i < n → glyphsT l a n = glyphsT l a i ++ (bytesN (lookN l (a + (i : Int))) 2 ++ (glyphsT l a n).drop (2 * i + 2)) := by
   intro n;induction n with
   | zero => intro h; omega
   | succ n ih =>
    intro hin;rw [glyphsT_succ];rcases Nat.lt_or_ge i n with h1 | h1
    ·
     have := ih h1
     have hd : (glyphsT l a n ++ bytesN (lookN l (a + (n : Int))) 2).drop (2 * i + 2) = (glyphsT l a n).drop (2 * i + 2) ++ bytesN (lookN l (a + (n : Int))) 2 := by
      rw [List.drop_append_of_le_length (by rw [glyphsT_length]; omega)]
     rw [hd];conv => lhs; rw [this]
     simp only [List.append_assoc]
    have : i = n := by omega
    subst this;rw [List.drop_of_length_le (by rw [List.length_append, glyphsT_length, bytesN_length]; omega), List.append_nil]
  have hBB : B = (headT a m ++ glyphsT l a i) ++ (bytesN (lookN l (a + (i : Int))) 2 ++ ((glyphsT l a m).drop (2 * i + 2) ++ more)) := by
   rw [hB];conv => lhs; rw [hsplit m hi']
   simp only [List.append_assoc]
  rw [hBB];exact w2_at _ _ _ hb.1 hb.2 (10 + 2 * i) (by rw [List.length_append, headT_length, glyphsT_length])
 rw [← hB];unfold getC;rw [hsz, if_neg (by omega), e0, if_neg (by decide), if_pos rfl, if_neg (by omega), e2, e8, if_pos rfl, if_neg (by omega), e6, if_neg (by omega), Int.toNat_natCast, e3]
theorem trim_back {l : List S61} (h : isL l = true) {a b : Int} (he : endsN l = (a, b, true)) (ha : 0 ≤ a) (m : Nat) (hm : (m : Int) = b - a + 1) (hb : b ≤ 65535) (c : Int) : glyphOf (spansN a ((List.range m).map (fun i : Nat => lookN l (a + (i : Int))))) c = lookN l c := by
 have hi := spans_isL (a := a) (L := (List.range m).map (fun i : Nat => lookN l (a + (i : Int)))) ha (by simp; omega) (looks_bd h a m);obtain ⟨_, i1, i2⟩ := isL_all hi;unfold glyphOf;rw [if_pos hi, look_lin i1 i2, spans_lin];simp only [List.length_map, List.length_range];by_cases hc : a ≤ c ∧ c < a + (m : Int)
 ·
  rw [if_pos hc];obtain ⟨n, hn⟩ := Int.eq_ofNat_of_zero_le (show 0 ≤ c - a by omega);have hn2 : n < m := by omega
  have e : a + (n : Int) = c := by omega
  rw [hn, Int.toNat_natCast, List.getD_eq_getElem?_getD, List.getElem?_map, List.getElem?_range hn2];show lookN l (a + (n : Int)) = _
  rw [e]
 rw [if_neg hc];by_cases h0 : lookN l c = 0
 · exact h0.symm
 obtain ⟨_, h2, h3⟩ := look_in h h0;rw [he] at h2 h3;simp only at h2 h3;omega
theorem trim_none {l : List S61} (h : isL l = true) (he : (endsN l).2.2 = false) (c : Int) : lookN l c = 0 := by
 by_cases h0 : lookN l c = 0
 · exact h0
 obtain ⟨h1, _⟩ := look_in h h0;rw [he] at h1; exact absurd h1 (by decide)
theorem get_spans {s : ByteArray} (h : (getC s).2 = 0) : ∃ (a : Int) (L : List Int), (getC s).1 = spansN a L ∧ 0 ≤ a ∧ a + L.length ≤ 65536 ∧ (∀ g ∈ L, 0 ≤ g ∧ g ≤ 65535) ∧ (L.length ≤ 256 ∨ 2 * L.length ≤ s.size) := by
 have n4 : ¬ (4 : Int) = 0 := by decide
 have n5 : ¬ (5 : Int) = 0 := by decide
 unfold getC at h ⊢;by_cases h1 : s.size < 4
 · rw [if_pos h1] at h; exact absurd h n4
 rw [if_neg h1] at h ⊢;by_cases h2 : w2 s 0 = 0
 ·
  rw [if_pos h2] at h ⊢;by_cases h3 : w2 s 2 = 262
  ·
   rw [if_pos h3] at h ⊢;by_cases h4 : 262 ≤ s.size
   ·
    rw [if_pos h4];refine ⟨0, _, rfl, by decide, by simp, fun g hg => ?_, .inl (by simp)⟩;obtain ⟨i, _, rfl⟩ := List.mem_map.1 hg;have := w1_bd s (6 + i);omega
   rw [if_neg h4] at h; exact absurd h n4
  rw [if_neg h3] at h; exact absurd h n5
 rw [if_neg h2] at h ⊢;by_cases h3 : w2 s 0 = 6
 ·
  rw [if_pos h3] at h ⊢;by_cases h4 : s.size < 10
  · rw [if_pos h4] at h; exact absurd h n4
  rw [if_neg h4] at h ⊢;by_cases h5 : w2 s 2 = 10 + 2 * w2 s 8
  ·
   rw [if_pos h5] at h ⊢;by_cases h6 : (s.size : Int) < w2 s 2
   · rw [if_pos h6] at h; exact absurd h n4
   rw [if_neg h6] at h ⊢;by_cases h7 : w2 s 6 + w2 s 8 > 65536
   · rw [if_pos h7] at h; exact absurd h n5
   rw [if_neg h7];have b6 := w2_bd s 6;have b8 := w2_bd s 8;refine ⟨w2 s 6, _, rfl, b6.1, by simp; omega, fun g hg => ?_, .inr (by simp; omega)⟩;obtain ⟨i, _, rfl⟩ := List.mem_map.1 hg;exact w2_bd s _
  rw [if_neg h5] at h; exact absurd h n5
 rw [if_neg h3] at h; exact absurd h n5
theorem get_none {s : ByteArray} (h : (getC s).2 ≠ 0) : (getC s).1 = [] := by
 unfold getC at h ⊢;by_cases h1 : s.size < 4
 · rw [if_pos h1]
 rw [if_neg h1] at h ⊢;by_cases h2 : w2 s 0 = 0
 ·
  rw [if_pos h2] at h ⊢;by_cases h3 : w2 s 2 = 262
  ·
   rw [if_pos h3] at h ⊢;by_cases h4 : 262 ≤ s.size
   · rw [if_pos h4] at h; exact absurd rfl h
   rw [if_neg h4]
  rw [if_neg h3]
 rw [if_neg h2] at h ⊢;by_cases h3 : w2 s 0 = 6
 ·
  rw [if_pos h3] at h ⊢;by_cases h4 : s.size < 10
  · rw [if_pos h4]
  rw [if_neg h4] at h ⊢;by_cases h5 : w2 s 2 = 10 + 2 * w2 s 8
  ·
   rw [if_pos h5] at h ⊢;by_cases h6 : (s.size : Int) < w2 s 2
   · rw [if_pos h6]
   rw [if_neg h6] at h ⊢;by_cases h7 : w2 s 6 + w2 s 8 > 65536
   · rw [if_pos h7]
   rw [if_neg h7] at h; exact absurd rfl h
  rw [if_neg h5]
 rw [if_neg h3]
end Go.Proofs.YtejdflndgnpkcaaGreat.P
