/- Words, contracts and plain facts of the proof. Each says its own condition. -/
import Derived.Test.YtejdflndgnpkcaaGreatZCmapDoest
set_option linter.unusedVariables false
set_option linter.unusedSimpArgs false
namespace Go.Proofs.YtejdflndgnpkcaaGreat.P
open Go.RowKit PW PL PM
structure GoodS (L : List S61) : Prop where
 r : ∀ x ∈ L, rightN x = true
 o : ordN L = true
 m : ∀ x ∈ L, x.f1 ≤ 65535
 n : 0 < L.length
 e : (atS L (L.length - 1)).f1 = 65535
 g : ∀ x ∈ L, rowN x = true → x.f2 ≠ 0
 s : 16 + 8 * L.length + 2 * cntR L ≤ 65535
theorem log2_bd {n : Nat} (h : 0 < n) : 2 ^ n.log2 ≤ n ∧ n.log2 ≤ n := by
 have h1 : 2 ^ n.log2 ≤ n := Nat.log2_self_le (by omega);have h2 : n.log2 < 2 ^ n.log2 := Nat.lt_two_pow_self;exact ⟨h1, by omega⟩
theorem cntR_take (L : List S61) (i : Nat) : cntR (L.take i) ≤ cntR L := by
 have := cntR_app (L.take i) (L.drop i);rw [List.take_append_drop] at this;omega
theorem cntR_step (L : List S61) (i : Nat) (h : i < L.length) : cntR (L.take i) + cntX L[i] ≤ cntR L := by
 have h1 := cntR_app (L.take (i + 1)) (L.drop (i + 1));rw [List.take_append_drop] at h1
 have h2 : cntR (L.take (i + 1)) = cntR (L.take i) + cntX L[i] := by
  rw [List.take_add_one, List.getElem?_eq_getElem h, cntR_app];simp [cntR]
 omega
theorem offs_mem {L : List S61} {v : Int} (h : v ∈ offsS 0 L) : 0 ≤ v ∧ v ≤ 2 * (L.length : Int) + 2 * (cntR L : Int) := by
 obtain ⟨i, hi, rfl⟩ := List.getElem_of_mem h;rw [offs_length] at hi;rw [offs_at L i hi];have := cntR_take L i;split <;> omega
theorem rest_mem {L : List S61} {v : Int} (h : v ∈ restS L) : ∃ x ∈ L, v = x.f2 := by
 unfold restS at h;obtain ⟨x, hx, hv⟩ := List.mem_flatMap.1 h;exact ⟨x, hx, (List.mem_replicate.1 hv).2⟩
theorem out_fits {L : List S61} (h : GoodS L) : ∀ v ∈ outS L (cntR L), 0 ≤ v ∧ v ≤ 65535 := by
 intro v hv;have hn := h.n;have hs := h.s;have hl := log2_bd hn
 have hsp : ∀ x ∈ L, 0 ≤ x.f0 ∧ x.f0 ≤ x.f1 ∧ x.f1 ≤ 65535 ∧ 0 ≤ x.f2 ∧ x.f2 ≤ 65535 := fun x hx => by
  obtain ⟨a0, a1, a2, a3, a4, a5, a6⟩ := (right_iff x).1 (h.r x hx);exact ⟨a0, a1, h.m x hx, a4, a5⟩
 unfold outS at hv;rcases List.mem_append.1 hv with hv | hv
 ·
  unfold headS at hv;generalize 2 ^ L.length.log2 = p at hv hl
  simp only [List.mem_cons, List.not_mem_nil, or_false] at hv;omega
 rcases List.mem_append.1 hv with hv | hv
 ·
  obtain ⟨x, hx, rfl⟩ := List.mem_map.1 hv;have := hsp x hx; omega
 rcases List.mem_append.1 hv with hv | hv
 · simp at hv; omega
 rcases List.mem_append.1 hv with hv | hv
 ·
  obtain ⟨x, hx, rfl⟩ := List.mem_map.1 hv;have := hsp x hx; omega
 rcases List.mem_append.1 hv with hv | hv
 ·
  obtain ⟨x, hx, rfl⟩ := List.mem_map.1 hv;unfold delS; split <;> omega
 rcases List.mem_append.1 hv with hv | hv
 · have := offs_mem hv; omega
 obtain ⟨x, hx, rfl⟩ := rest_mem hv;have := hsp x hx; omega
theorem puts_words : ∀ (l : List Int), (∀ v ∈ l, 0 ≤ v ∧ v ≤ 65535) → puts (repN [2] l.length) l = some (bytesS l)
 | [], _ => rfl
 | x :: r, h => by
  have e : repN [2] (x :: r).length = 2 :: repN [2] r.length := rfl;rw [e];simp only [puts];rw [if_pos (fits2 (h x List.mem_cons_self).1 (h x List.mem_cons_self).2), puts_words r (fun v hv => h v (List.mem_cons_of_mem _ hv))];rfl
theorem put_words (l : List Int) (h : ∀ v ∈ l, 0 ≤ v ∧ v ≤ 65535) (hl : l.length < 17592186044416) : bin_Put.f (repN [2] l.length) l = some (⟨(bytesS l).toArray⟩, 0) := by
  unfold bin_Put.f;rw [if_pos (by rw [repN_length]; simpa using hl)];congr 1
  unfold putN
  rw [if_neg (by rintro (h | h)
                 · rw [rep_sizes (by decide)] at h; exact absurd h (by decide)
                 rw [repN_length] at h; simp at h), puts_words l h]
theorem w2_q (l : List Int) (more : List UInt8) (hf : ∀ v ∈ l, 0 ≤ v ∧ v ≤ 65535) (i : Nat) (v : Int) (h : l[i]? = some v) : w2 ⟨(bytesS l ++ more).toArray⟩ (2 * i) = v := by
 obtain ⟨hi, rfl⟩ := List.getElem?_eq_some_iff.1 h;have := hf _ (List.getElem_mem hi);exact w2_bytes l more i hi this.1 this.2
theorem out_to (L : List S61) (k i : Nat) (h : i < L.length) : (outS L k)[7 + i]? = some L[i].f1 := by
 unfold outS;rw [List.getElem?_append_right (by simp [headS]), List.getElem?_append_left (by simp [headS]; exact h)];simp [headS, h]
theorem out_from (L : List S61) (k i : Nat) (h : i < L.length) : (outS L k)[8 + L.length + i]? = some L[i].f0 := by
 have e : 8 + L.length + i - (headS L.length k).length - L.length - 1 = i := by simp [headS]; omega
 unfold outS;rw [List.getElem?_append_right (by simp [headS]; omega), List.getElem?_append_right (by simp [headS]; omega), List.getElem?_append_right (by simp [headS]; omega), List.getElem?_append_left (by simp [headS]; omega)];simp only [List.length_map, List.length_cons, List.length_nil, Nat.zero_add];rw [e];simp [h]
theorem out_del (L : List S61) (k i : Nat) (h : i < L.length) : (outS L k)[8 + 2 * L.length + i]? = some (delS L[i]) := by
 have e : 8 + 2 * L.length + i - (headS L.length k).length - L.length - 1 - L.length = i := by simp [headS]; omega
 unfold outS;rw [List.getElem?_append_right (by simp [headS]; omega), List.getElem?_append_right (by simp [headS]; omega), List.getElem?_append_right (by simp [headS]; omega), List.getElem?_append_right (by simp [headS]; omega), List.getElem?_append_left (by simp [headS]; omega)];simp only [List.length_map, List.length_cons, List.length_nil, Nat.zero_add];rw [e];simp [h]
theorem out_off (L : List S61) (k i : Nat) (h : i < L.length) : (outS L k)[8 + 3 * L.length + i]? = some (if rowN L[i] = true then 2 * ((L.length - i : Nat) : Int) + 2 * (cntR (L.take i) : Int) else 0) := by
 have e : 8 + 3 * L.length + i - (headS L.length k).length - L.length - 1 - L.length - L.length = i := by simp [headS]; omega
 unfold outS;rw [List.getElem?_append_right (by simp [headS]; omega), List.getElem?_append_right (by simp [headS]; omega), List.getElem?_append_right (by simp [headS]; omega), List.getElem?_append_right (by simp [headS]; omega), List.getElem?_append_right (by simp [headS]; omega), List.getElem?_append_left (by simp [headS, offs_length]; omega)];simp only [List.length_map, List.length_cons, List.length_nil, Nat.zero_add];rw [e, List.getElem?_eq_getElem (by rw [offs_length]; exact h), offs_at L i h]
theorem out_rest (L : List S61) (k j : Nat) : (outS L k)[8 + 4 * L.length + j]? = (restS L)[j]? := by
 have e : 8 + 4 * L.length + j - (headS L.length k).length - L.length - 1 - L.length - L.length - L.length = j := by simp [headS]; omega
 unfold outS;rw [List.getElem?_append_right (by simp [headS]; omega), List.getElem?_append_right (by simp [headS]; omega), List.getElem?_append_right (by simp [headS]; omega), List.getElem?_append_right (by simp [headS]; omega), List.getElem?_append_right (by simp [headS]; omega), List.getElem?_append_right (by simp [headS, offs_length]; omega)];simp only [List.length_map, List.length_cons, List.length_nil, Nat.zero_add, offs_length];rw [e]
def segX (x : S61) : List S61 := if rowN x = true then partsL x 1 (cntX x) else [⟨x.f0, x.f1, x.f2, 1⟩]
theorem row_iff (x : S61) : rowN x = true ↔ x.f3 = 0 ∧ x.f0 < x.f1 := by
 unfold rowN;rw [Bool.and_eq_true, beq_iff_eq, decide_eq_true_eq]
theorem spans_flat {x : S61} (h3 : x.f3 = 0) (h2 : x.f2 ≠ 0) (h2' : 0 ≤ x.f2) : ∀ m : Nat, spansN x.f0 ((List.range m).map (fun _ => x.f2)) = partsL x 1 m
 | 0 => rfl
 | m + 1 => by
  rw [List.range_succ, List.map_append, List.map_singleton, spans_snoc, partsL_succ, spans_flat h3 h2 h2' m, if_neg h2, h3, Int.zero_mul, if_pos (by omega)];unfold partP;rw [h3, Int.zero_mul, Int.add_zero];simp
theorem good_at {L : List S61} (h : GoodS L) (i : Nat) (hi : i < L.length) (t : ByteArray) (ht : t = ⟨(bytesS (outS L (cntR L))).toArray⟩) : toF t i = L[i].f1 ∧ fromF t L.length i = L[i].f0 ∧ segAt t L.length i = some (segX L[i]) ∧ offF t L.length i % 2 = 0 := by
 have hf := out_fits h
 have hq : ∀ (j : Nat) (v : Int), (outS L (cntR L))[j]? = some v → w2 t (2 * j) = v := fun j v hv => by
  have := w2_q (outS L (cntR L)) [] hf j v hv;rw [List.append_nil] at this;rw [ht]; exact this
 have hsz : t.size = 16 + 8 * L.length + 2 * cntR L := by rw [ht, ba_size, bytesS_length, out_length]; omega
 obtain ⟨a0, a1, a2, a3, a4, a5, a6⟩ := (right_iff L[i]).1 (h.r _ (List.getElem_mem hi));have hm := h.m _ (List.getElem_mem hi)
 have e1 : toF t i = L[i].f1 := by
  unfold toF;rw [show 14 + 2 * i = 2 * (7 + i) by omega];exact hq _ _ (out_to L _ i hi)
 have e2 : fromF t L.length i = L[i].f0 := by
  unfold fromF;rw [show 16 + 2 * L.length + 2 * i = 2 * (8 + L.length + i) by omega];exact hq _ _ (out_from L _ i hi)
 have e3 : delF t L.length i = delS L[i] := by
  unfold delF;rw [show 16 + 4 * L.length + 2 * i = 2 * (8 + 2 * L.length + i) by omega];exact hq _ _ (out_del L _ i hi)
 have e4 : offF t L.length i = if rowN L[i] = true then 2 * ((L.length - i : Nat) : Int) + 2 * (cntR (L.take i) : Int) else 0 := by
  unfold offF;rw [show 16 + 6 * L.length + 2 * i = 2 * (8 + 3 * L.length + i) by omega];exact hq _ _ (out_off L _ i hi)
 refine ⟨e1, e2, ?_, by rw [e4]; split <;> omega⟩;unfold segAt;rw [e1, e2, e3, e4];unfold segF segX;cases hr : rowN L[i] with
 | true =>
  obtain ⟨r1, r2⟩ := (row_iff _).1 hr;have hc := cntR_step L i hi;have hcx : cntX L[i] = (L[i].f1 - L[i].f0 + 1).toNat := by unfold cntX; rw [hr, if_pos rfl]
  have hg := h.g _ (List.getElem_mem hi) hr;rw [if_pos rfl, if_pos rfl, if_neg (by omega), if_pos (by rw [hsz]; omega), ← hcx];congr 1
  unfold farF;rw [← spans_flat r1 hg a4];congr 1
  apply List.map_congr_left
  intro j hj;have hj := List.mem_range.1 hj
  have e5 : w2 t (16 + 6 * L.length + 2 * i + (2 * ((L.length - i : Nat) : Int) + 2 * (cntR (L.take i) : Int)).toNat + 2 * j) = L[i].f2 := by
   rw [show 16 + 6 * L.length + 2 * i + (2 * ((L.length - i : Nat) : Int) + 2 * (cntR (L.take i) : Int)).toNat + 2 * j = 2 * (8 + 4 * L.length + (cntR (L.take i) + j)) by omega];exact hq _ _ (by rw [out_rest, rest_at L i hi j hj])
  have e6 : delS L[i] = 0 := by unfold delS; rw [hr, if_pos rfl]
  rw [e5, e6];unfold glyF;rw [if_neg hg];omega
 | false =>
  rw [if_neg Bool.false_ne_true, if_neg Bool.false_ne_true, if_pos rfl];congr 1
  have e6 : delS L[i] = (65536 + L[i].f2 - L[i].f0) % 65536 := by unfold delS; rw [hr, if_neg (by decide)]
  have hg : (L[i].f0 + delS L[i]) % 65536 = L[i].f2 := by rw [e6]; omega
  have hnr : ¬ (L[i].f3 = 0 ∧ L[i].f0 < L[i].f1) := fun hh => by rw [(row_iff _).2 hh] at hr; exact absurd hr (by decide)
  unfold nearF;rw [hg, if_pos];rcases a3 with a3 | a3
  ·
   have : L[i].f0 = L[i].f1 := by omega
   omega
  rw [a3, Int.one_mul] at a6; omega
theorem segs_good {L : List S61} (h : GoodS L) (t : ByteArray) (ht : t = ⟨(bytesS (outS L (cntR L))).toArray⟩) : ∀ i, i ≤ L.length → segsF t L.length i = some ((L.take i).flatMap segX)
 | 0, _ => rfl
 | i + 1, hi => by
  unfold segsF;rw [segs_good h t ht i (by omega), Option.bind_some, (good_at h i (by omega) t ht).2.2.1, Option.bind_some, List.take_add_one, List.getElem?_eq_getElem (by omega), List.flatMap_append];simp
theorem right_good {L : List S61} (h : GoodS L) (t : ByteArray) (ht : t = ⟨(bytesS (outS L (cntR L))).toArray⟩) : rightF t L.length = true := by
 unfold rightF;rw [Bool.and_eq_true, decide_eq_true_eq, List.all_eq_true]
 have hl : ∀ i, i < L.length → lastF t (i + 1) = (atS L i).f1 := fun i hi => by
  show toF t i = _
  rw [(good_at h i hi t ht).1, atS_get L i hi]
 refine ⟨fun i hi => ?_, ?_⟩
 ·
  have hi := List.mem_range.1 hi;obtain ⟨e1, e2, _, e4⟩ := good_at h i hi t ht;obtain ⟨a0, a1, _⟩ := (right_iff L[i]).1 (h.r _ (List.getElem_mem hi));unfold rightAt;rw [e1, e2, decide_eq_true a1, decide_eq_true e4, Bool.true_and, Bool.and_true];apply decide_eq_true
  cases i with
  | zero => show (-1 : Int) < _; omega
  | succ i =>
   rw [hl i (by omega), atS_get L i (by omega)];exact ord_at_lt h.r h.o (Nat.lt_succ_self i) hi
 have hn := h.n;have := hl (L.length - 1) (by omega);rw [show L.length - 1 + 1 = L.length by omega] at this;rw [this]; exact h.e
theorem get_out {L : List S61} (h : GoodS L) (more : List UInt8) : getS ⟨(bytesS (outS L (cntR L)) ++ more).toArray⟩ = (L.flatMap segX, 0) := by
 have hf := out_fits h;have hn := h.n;have hs := h.s;obtain ⟨s, hse⟩ : ∃ s : ByteArray, s = ⟨(bytesS (outS L (cntR L)) ++ more).toArray⟩ := ⟨_, rfl⟩;have hlen : (bytesS (outS L (cntR L))).length = 16 + 8 * L.length + 2 * cntR L := by rw [bytesS_length, out_length]; omega
 have hsz : s.size = 16 + 8 * L.length + 2 * cntR L + more.length := by rw [hse, ba_size, List.length_append, hlen]
 have hq : ∀ (j : Nat) (v : Int), (outS L (cntR L))[j]? = some v → w2 s (2 * j) = v := fun j v hv => by rw [hse]; exact w2_q (outS L (cntR L)) more hf j v hv
 have e0 : w2 s 0 = 4 := hq 0 _ rfl;have e2 : w2 s 2 = 16 + 8 * (L.length : Int) + 2 * (cntR L : Int) := hq 1 _ rfl;have e6 : w2 s 6 = 2 * (L.length : Int) := hq 3 _ rfl;have hc : cntF s = L.length := by unfold cntF; rw [e6]; omega
 have hcut : s.extract 0 (w2 s 2).toNat = ⟨(bytesS (outS L (cntR L))).toArray⟩ := by
  have : (w2 s 2).toNat = (bytesS (outS L (cntR L))).length := by rw [hlen, e2]; omega
  rw [this, hse, ba_cut, List.take_left', List.drop_zero];rfl
 rw [← hse];unfold getS;rw [if_neg (by omega), if_neg (by rw [e0, e6]; omega), if_neg (by rw [e2]; omega), if_neg (by rw [e2, hc]; omega), hcut, hc, right_good h _ rfl, if_neg (by decide), segs_good h _ rfl L.length (Nat.le_refl _), List.take_of_length_le (Nat.le_refl _)]
theorem kept_has {x : S61} (hx : rightN x = true) : keptN x = true ↔ (0 < x.f2 ∨ x.f3 = 1 ∧ x.f0 < x.f1) := by
  obtain ⟨a0, a1, a2, a3, a4, a5, a6⟩ := (right_iff x).1 hx;unfold keptN;rw [Bool.not_eq_true', Bool.and_eq_false_iff, Bool.or_eq_false_iff, beq_eq_false_iff_ne, beq_eq_false_iff_ne, beq_eq_false_iff_ne];constructor
  · rintro (h | ⟨h1, h2⟩)
    · exact .inl (by omega)
    exact .inr (by rcases a3 with h | h
                   · exact absurd h h1
                   exact ⟨h, by omega⟩)
  rintro (h | ⟨h1, h2⟩)
  · exact .inl (by omega)
  exact .inr ⟨by omega, by omega⟩
theorem ord_filter : ∀ (l : List S61) (p : S61 → Bool), (∀ x ∈ l, rightN x = true) → ordN l = true → ordN (l.filter p) = true
 | [], _, _, _ => rfl
 | x :: r, p, hr, ho => by
  have hr' : ∀ y ∈ r, rightN y = true := fun y hy => hr y (List.mem_cons_of_mem _ hy)
  have ih := ord_filter r p hr' (ord_cons ho);rw [List.filter_cons];split
  · exact ord_mk (fun y hy => ord_head hr' ho y (List.mem_filter.1 hy).1) ih
  exact ih
theorem split_kept : ∀ (l : List S61), (∀ x ∈ l, rightN x = true) → (keptL l).flatMap segX = splitL l 1
 | [], _ => rfl
 | x :: r, hr => by
  have hx := hr x List.mem_cons_self;have ih := split_kept r (fun y hy => hr y (List.mem_cons_of_mem _ hy));obtain ⟨a0, a1, a2, a3, a4, a5, a6⟩ := (right_iff x).1 hx;have e : splitL (x :: r) 1 = partsP x 1 ++ splitL r 1 := by unfold splitL; rw [List.flatMap_cons]
  rw [e, ← ih];unfold keptL;rw [List.filter_cons];cases hk : keptN x with
  | true =>
   rw [if_pos rfl, List.flatMap_cons];congr 1
   have hh := (kept_has hx).1 hk;unfold segX partsP;cases hw : rowN x with
   | true =>
    obtain ⟨r1, r2⟩ := (row_iff x).1 hw;rw [if_pos rfl, if_neg (by omega)];unfold cntX;rw [hw, if_pos rfl]
   | false =>
    have hnr : ¬ (x.f3 = 0 ∧ x.f0 < x.f1) := fun hh => by rw [(row_iff _).2 hh] at hw; exact absurd hw (by decide)
    rw [if_neg (by decide), if_pos (by omega), if_pos hh]
  | false =>
   rw [if_neg (by decide)];have hh : ¬ (0 < x.f2 ∨ x.f3 = 1 ∧ x.f0 < x.f1) := fun hh => by rw [(kept_has hx).2 hh] at hk; exact absurd hk (by decide)
   have hp : partsP x 1 = [] := by
    unfold partsP;by_cases h1 : x.f3 = 1 ∨ x.f0 = x.f1
    · rw [if_pos h1, if_neg hh]
    rw [if_neg h1];unfold partsL;rw [List.filter_eq_nil_iff];intro y hy;obtain ⟨i, _, rfl⟩ := List.mem_map.1 hy;have h0 : x.f3 = 0 := by omega
    have h2 : x.f2 = 0 := by omega
    unfold partP;rw [h0, h2, Int.zero_mul];simp
   rw [hp, List.nil_append]
theorem segP_good {l L : List S61} {k : Int} (h : segP l = (L, k, 0)) : isL l = true ∧ L = closeL (keptL l) ∧ k = (cntR L : Int) ∧ cntR L = cntR (keptL l) ∧ GoodS L := by
 unfold segP at h;split at h
 · exact absurd (Prod.mk.inj (Prod.mk.inj h).2).2 (by decide)
 rename_i hi
 have hi : isL l = true := by cases hq : isL l with | true => rfl | false => exact absurd hq hi
 split at h
 · exact absurd (Prod.mk.inj (Prod.mk.inj h).2).2 (by decide)
 rename_i hfar
 split at h
 · exact absurd (Prod.mk.inj (Prod.mk.inj h).2).2 (by decide)
 rename_i hs
 obtain ⟨hL0, hk0⟩ := Prod.mk.inj h;obtain ⟨hk1, _⟩ := Prod.mk.inj hk0;subst hL0;subst hk1;obtain ⟨_, hr, ho⟩ := isL_all hi;obtain ⟨K, hK⟩ : ∃ K, K = keptL l := ⟨_, rfl⟩;rw [← hK] at hfar hs ⊢;have kr : ∀ x ∈ K, rightN x = true := fun x hx => by rw [hK] at hx; exact hr x (List.mem_filter.1 hx).1
 have kk : ∀ x ∈ K, keptN x = true := fun x hx => by rw [hK] at hx; exact (List.mem_filter.1 hx).2
 have ko : ordN K = true := by rw [hK]; exact ord_filter l keptN hr ho
 have km : ∀ x ∈ K, x.f1 ≤ 65535 := fun x hx => by
  rcases Int.lt_or_le 65535 x.f1 with hh | hh
  · exact absurd (List.any_eq_true.2 ⟨x, hx, decide_eq_true hh⟩) hfar
  exact hh
 clear hK
 have hcl : cntR (closeL K) = cntR K := by
  unfold closeL tailS;rw [cntR_app];split
  · rfl
  rfl
 have hsr : rightN sentS = true := by decide
 have hg : ∀ x ∈ K, rowN x = true → x.f2 ≠ 0 := fun x hx hw => by
  have := (kept_has (kr x hx)).1 (kk x hx);obtain ⟨r1, r2⟩ := (row_iff x).1 hw;omega
 refine ⟨hi, rfl, by rw [hcl], hcl, ?_⟩;by_cases ht : K.length = 0 ∨ (atS K (K.length - 1)).f1 < 65535
 ·
  have e : closeL K = K ++ [sentS] := by unfold closeL tailS; rw [if_pos ht]
  have hlt : ∀ x ∈ K, x.f1 < 65535 := fun x hx => by
   obtain ⟨i, hil, rfl⟩ := List.getElem_of_mem hx;rcases ht with ht | ht
   · omega
   rw [atS_get K _ (by omega)] at ht;rcases Nat.lt_or_ge i (K.length - 1) with h1 | h1
   ·
    have := ord_at_lt kr ko h1 (by omega);have := ((right_iff _).1 (kr _ (List.getElem_mem (show K.length - 1 < K.length by omega)))).2.1;omega
   have : i = K.length - 1 := by omega
   subst this; exact ht
  refine ⟨?_, ?_, ?_, ?_, ?_, ?_, ?_⟩
  ·
   rw [e]; intro x hx;rcases List.mem_append.1 hx with hx | hx
   · exact kr x hx
   obtain rfl := List.mem_singleton.1 hx; exact hsr
  ·
   rw [e];refine ord_app kr (fun x hx y hy => ?_) ko rfl;obtain rfl := List.mem_singleton.1 hy;exact hlt x hx
  ·
   rw [e]; intro x hx;rcases List.mem_append.1 hx with hx | hx
   · exact km x hx
   obtain rfl := List.mem_singleton.1 hx; decide
  · rw [e, List.length_append]; simp
  · rw [e, atS_get _ _ (by simp)]; simp [sentS]
  ·
   rw [e]; intro x hx;rcases List.mem_append.1 hx with hx | hx
   · exact hg x hx
   obtain rfl := List.mem_singleton.1 hx; intro h; exact absurd h (by decide)
  rw [hcl]; omega
 have e : closeL K = K := by unfold closeL tailS; rw [if_neg ht, List.append_nil]
 refine ⟨by rw [e]; exact kr, by rw [e]; exact ko, by rw [e]; exact km, by rw [e]; omega, ?_, by rw [e]; exact hg, by rw [hcl]; omega⟩;rw [e, atS_get _ _ (by omega)] at *;have := km _ (List.getElem_mem (show K.length - 1 < K.length by omega));omega
theorem segX_good {l L : List S61} {k : Int} (h : segP l = (L, k, 0)) : isL (L.flatMap segX) = true ∧ ∀ c, lookN (L.flatMap segX) c = lookN l c := by
 obtain ⟨hi, hL, _, _, hg⟩ := segP_good h;obtain ⟨_, hr, ho⟩ := isL_all hi;obtain ⟨i1, i2, i3⟩ := split_ok (.inr rfl) hr ho;have kr : ∀ x ∈ keptL l, rightN x = true := fun x hx => hr x (List.mem_filter.1 hx).1
 have e : L.flatMap segX = splitL l 1 ++ tailS (keptL l) := by
  rw [hL];unfold closeL;rw [List.flatMap_append, split_kept l hr];congr 1
  unfold tailS;split
  · rfl
  rfl
 have hm : ∀ y ∈ splitL l 1, y.f1 ≤ 65535 ∧ (tailS (keptL l) ≠ [] → y.f1 < 65535) := fun y hy => by
  rw [← split_kept l hr] at hy;obtain ⟨x, hx, hy⟩ := List.mem_flatMap.1 hy;have hxL : x ∈ L := by rw [hL]; exact List.mem_append_left _ hx
  have hyx : y.f1 ≤ x.f1 := by
   unfold segX at hy;split at hy
   ·
    rename_i hw
    have h1 := (partsL_mem hy).2;obtain ⟨r1, r2⟩ := (row_iff x).1 hw;have : cntX x = (x.f1 - x.f0 + 1).toNat := by unfold cntX; rw [hw, if_pos rfl]
    omega
   obtain rfl := List.mem_singleton.1 hy;exact Int.le_refl _
  have := hg.m x hxL;refine ⟨by omega, fun ht => ?_⟩
  have ht2 : tailS (keptL l) = [sentS] := by
   unfold tailS at ht ⊢;split
   · rfl
   rename_i hq; rw [if_neg hq] at ht; exact absurd rfl ht
  have hL2 : L = keptL l ++ [sentS] := by rw [hL]; unfold closeL; rw [ht2]
  obtain ⟨i, hil, rfl⟩ := List.getElem_of_mem hx;have h1 : (L[i]'(by rw [hL2, List.length_append]; simp; omega)).f1 < (L[(keptL l).length]'(by rw [hL2, List.length_append]; simp)).f0 := ord_at_lt hg.r hg.o hil (by rw [hL2, List.length_append]; simp);have e1 : L[i]'(by rw [hL2, List.length_append]; simp; omega) = (keptL l)[i] := by simp only [hL2]; rw [List.getElem_append_left hil]
  have e2 : L[(keptL l).length]'(by rw [hL2, List.length_append]; simp) = sentS := by simp [hL2]
  rw [e1, e2] at h1;have : sentS.f0 = 65535 := rfl;omega
 have ht : ∀ y ∈ tailS (keptL l), y = sentS := fun y hy => by
  unfold tailS at hy;split at hy
  · exact List.mem_singleton.1 hy
  simp at hy
 have hto : ordN (tailS (keptL l)) = true := by
  unfold tailS;split <;> rfl
 have ar : ∀ y ∈ splitL l 1 ++ tailS (keptL l), rightN y = true ∧ 0 ≤ y.f0 ∧ y.f1 ≤ 65535 := fun y hy => by
  rcases List.mem_append.1 hy with hy | hy
  · exact ⟨(i1 y hy).1, ((right_iff y).1 (i1 y hy).1).1, (hm y hy).1⟩
  rw [ht y hy]; decide
 have ao : ordN (splitL l 1 ++ tailS (keptL l)) = true := by
  refine ord_app (fun y hy => (i1 y hy).1) (fun x hx y hy => ?_) i2 hto;have hne : tailS (keptL l) ≠ [] := fun h0 => by rw [h0] at hy; simp at hy
  rw [ht y hy];exact (hm x hx).2 hne
 rw [e];have hlen := ord_len _ 0 65535 ar ao (by decide);refine ⟨isL_mk (by omega) (fun y hy => (ar y hy).1) ao, fun c => ?_⟩;rw [look_lin (fun y hy => (ar y hy).1) ao, look_lin hr ho, ← i3 c];by_cases hc : ∃ y ∈ tailS (keptL l), y.f0 ≤ c ∧ c ≤ y.f1
 ·
  obtain ⟨y, hy, hc⟩ := hc;have hne : tailS (keptL l) ≠ [] := fun h0 => by rw [h0] at hy; simp at hy
  have ht2 : tailS (keptL l) = [sentS] := by
   unfold tailS at hne ⊢;split
   · rfl
   rename_i hq; rw [if_neg hq] at hne; exact absurd rfl hne
  rw [ht y hy] at hc;have h0 : sentS.f0 = 65535 := rfl;have h1 : sentS.f1 = 65535 := rfl;rw [lin_skip _ _ c (fun z hz hzc => by have := (hm z hz).2 hne; omega), ht2, lin_none (splitL l 1) c (fun z hz hzc => by have := (hm z hz).2 hne; omega)];unfold linN;rw [if_pos hc];show (0 : Int) + 1 * (c - 65535) = 0
  omega
 exact lin_front _ _ c (fun y hy h => hc ⟨y, hy, h⟩)
theorem putS_ok {l : List S61} (h : (putS l).2 = 0) : ∃ L k, segP l = (L, k, 0) ∧ (putS l).1 = ⟨(bytesS (outS L (cntR L))).toArray⟩ := by
 obtain ⟨L, k, e, hs⟩ : ∃ L k e, segP l = (L, k, e) := ⟨_, _, _, rfl⟩;unfold putS at h ⊢;rw [hs] at h ⊢;by_cases he : e ≠ 0
 · rw [if_pos he] at h; exact absurd h he
 have he : e = 0 := Decidable.of_not_not he;subst he;refine ⟨L, k, rfl, ?_⟩;rw [if_neg (show ¬ ((0 : Int) ≠ 0) by decide)];obtain ⟨_, _, hk, _, _⟩ := segP_good hs;show (⟨(bytesS (outS L k.toNat)).toArray⟩ : ByteArray) = _
 rw [hk, Int.toNat_natCast]
end Go.Proofs.YtejdflndgnpkcaaGreat.P
