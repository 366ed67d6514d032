/- A part of the proof of the law GlyfOnly: the words, contracts and plain facts that it needs, no more. Each says its own condition. -/
import Derived.Test.YtjmliafplgjkhaaZGlyfOnlyy
import Derived.Test.YtjmliafplgjkhaaZGlyfOnlyx
import Derived.Test.YtjmliafplgjkhaaZGlyfOnlyq
section
namespace Go.Proofs.Ytjmliafplgjkhaa.P
open Go.RowKit Go.Proofs.YtjmliafplgjkhaaW.PrintWords Go.Proofs.YtjmliafplgjkhaaW.PrintLast Go.Proofs.YtjmliafplgjkhaaW.PrintMore
set_option linter.unusedSimpArgs false
set_option linter.unusedVariables false
def fit4 (x : S30) : Bool := fitsN x.f1 (-2) && (fitsN x.f2 (-2) && (fitsN x.f3 (-2) && fitsN x.f4 (-2)))
def rawE (x : S30) : List UInt8 := bytesN x.f1 2 ++ (bytesN x.f2 2 ++ (bytesN x.f3 2 ++ (bytesN x.f4 2 ++ [])))
theorem four_puts (x : S30) : puts [-2, -2, -2, -2] (fourN x) = if fit4 x = true then some (rawE x) else none := by
  unfold fourN fit4 rawE
  simp only [puts]
  cases fitsN x.f1 (-2) <;> cases fitsN x.f2 (-2) <;> cases fitsN x.f3 (-2) <;> cases fitsN x.f4 (-2) <;> rfl
theorem four_put (x : S30) : putN [-2, -2, -2, -2] (fourN x) = if fit4 x = true then (⟨(rawE x).toArray⟩, 0) else (⟨#[]⟩, 2) := by
  unfold putN
  rw [if_neg (by rintro (h | h); · exact absurd h (by decide)
                 · exact h rfl), four_puts]
  cases fit4 x <;> rfl
theorem isN_told (x : S30) : isN x = if x.f0 = true then (fit4 x && (decide (x.f1 ≤ x.f3) && decide (x.f2 ≤ x.f4))) else (x.f1 == 0 && (x.f2 == 0 && (x.f3 == 0 && x.f4 == 0))) := by
  unfold isN
  rw [four_put]
  cases fit4 x <;> rfl
theorem isN_any {x : S30} (h : isN x = true) (h0 : x.f0 = true) : fit4 x = true ∧ x.f1 ≤ x.f3 ∧ x.f2 ≤ x.f4 := by
  rw [isN_told, if_pos h0] at h
  simpa using h
theorem isN_none {x : S30} (h : isN x = true) (h0 : x.f0 = false) : x = z30 := by
  rw [isN_told, if_neg (by rw [h0]; decide)] at h
  obtain ⟨a, b, c, d, e⟩ := x
  simp only [Bool.and_eq_true, beq_iff_eq] at h
  simp only at h0
  obtain ⟨rfl, rfl, rfl, rfl⟩ := h
  subst h0
  rfl
theorem rowE_any {x : S30} (h : isN x = true) (h0 : x.f0 = true) : rowE x = 0 :: 0 :: (rawE x ++ [0, 0]) := by
  unfold rowE
  rw [if_pos h0]
  unfold bytesE
  rw [four_put, if_pos (isN_any h h0).1]
theorem rowE_none {x : S30} (h0 : x.f0 = false) : rowE x = [] := by
  unfold rowE
  rw [if_neg (by rw [h0]; decide)]
theorem rawE_length (x : S30) : (rawE x).length = 8 := by
  unfold rawE
  simp [bytesN_length]
theorem rowE_length {x : S30} (h : isN x = true) : (rowE x).length = if x.f0 = true then 12 else 0 := by
  cases h0 : x.f0 with
  | false => rw [rowE_none h0]; rfl
  | true => rw [rowE_any h h0, List.length_cons, List.length_cons, List.length_append, rawE_length]; rfl
def at2 (s : ByteArray) (p : Nat) : Int := takeN (s.extract p s.size) (-2)
def oneX (s : ByteArray) : S30 := ⟨true, at2 s 2, at2 s 4, at2 s 6, at2 s 8⟩
theorem get_four (s : ByteArray) : getN s 2 [-2, -2, -2, -2] = if 10 ≤ s.size then (fourN (oneX s), 0) else ([], 4) := by
  have h := get_rep s (s := -2) (by decide) 2 4
  have e : repN [-2] 4 = [-2, -2, -2, -2] := rfl
  have e2 : (-2 : Int).natAbs = 2 := rfl
  rw [e, e2] at h
  refine Eq.trans h ?_
  by_cases hc : 10 ≤ s.size
  · rw [if_pos hc, if_pos (by omega), show List.range 4 = [0, 1, 2, 3] from by decide]
    simp only [List.map_cons, List.map_nil, Nat.mul_zero, Nat.add_zero, Nat.mul_one, show 2 + 2 = 4 from rfl, show 2 + 2 * 2 = 6 from rfl, show 2 + 2 * 3 = 8 from rfl]
    unfold fourN oneX at2
    simp only
  · rw [if_neg hc, if_neg (by omega)]
theorem list_nil (s : ByteArray) : s.toList = ([] : List UInt8) ↔ s.size = 0 := by
  rw [ByteArray.toList_eq, ← ba_len]
  exact List.length_eq_zero_iff.symm
def oneT (s : ByteArray) : Bool × Int × Int × Int × Int × Int := if s.size = 0 then (false, 0, 0, 0, 0, 0) else if s.size < 10 then (false, 0, 0, 0, 0, 4) else if isN (oneX s) = true then (true, at2 s 2, at2 s 4, at2 s 6, at2 s 8, 0) else (false, 0, 0, 0, 0, 5)
theorem one_eq (s : ByteArray) : glyf_one.f s = some (oneT s) := by
  unfold glyf_one.f oneT glyf_fields.f bin_Get.f
  by_cases h : s.size = 0
  · rw [if_pos ((list_nil s).2 h), if_pos h]
  · rw [if_neg (fun e => h ((list_nil s).1 e)), if_neg h]
    simp only [Option.bind_some]
    rw [if_pos (by decide), get_four]
    simp only [Option.bind_some]
    by_cases h2 : 10 ≤ s.size
    · rw [if_pos h2, if_neg (show ¬ s.size < 10 by omega)]
      simp only
      have h3 : glyf_Is.f true (rd (fourN (oneX s)) 0) (rd (fourN (oneX s)) 1) (rd (fourN (oneX s)) 2) (rd (fourN (oneX s)) 3) = some (isN (oneX s)) := is_some (oneX s)
      have hl4 : (fourN (oneX s)).length = 4 := rfl
      rw [if_pos trivial, hl4, if_pos (by decide), if_pos (by decide), if_pos (by decide), if_pos (by decide), h3]
      simp only [Option.bind_some]
      cases isN (oneX s) <;> rfl
    · rw [if_neg h2, if_pos (show s.size < 10 by omega)]
      simp only
      rw [if_neg (by decide)]
theorem oneP_eq (s : ByteArray) : oneP s = if s.size = 0 then (z30, 0) else if s.size < 10 then (z30, 4) else if isN (oneX s) = true then (oneX s, 0) else (z30, 5) := by
  unfold oneP
  rw [one_eq]
  unfold oneT
  by_cases h : s.size = 0
  · rw [if_pos h, if_pos h]; rfl
  · rw [if_neg h, if_neg h]
    by_cases h2 : s.size < 10
    · rw [if_pos h2, if_pos h2]; rfl
    · rw [if_neg h2, if_neg h2]
      cases isN (oneX s) <;> rfl
theorem oneP_is {s : ByteArray} (h : (oneP s).2 = 0) : isN (oneP s).1 = true := by
  rw [oneP_eq] at h ⊢
  by_cases h0 : s.size = 0
  · rw [if_pos h0]; rfl
  · rw [if_neg h0] at h ⊢
    by_cases h2 : s.size < 10
    · rw [if_pos h2] at h; exact absurd h (by decide)
    · rw [if_neg h2] at h ⊢
      cases hi : isN (oneX s) with
      | true => rw [if_pos rfl]; exact hi
      | false => rw [hi, if_neg Bool.false_ne_true] at h; exact absurd (show (5 : Int) = 0 from h) (by decide)
theorem one_row {x : S30} (h : isN x = true) : oneP ⟨(rowE x).toArray⟩ = (x, 0) := by
  rw [oneP_eq, ba_size]
  cases h0 : x.f0 with
  | false => rw [rowE_none h0, if_pos (show ([] : List UInt8).length = 0 from rfl), isN_none h h0]
  | true =>
    have hl : (rowE x).length = 12 := by rw [rowE_length h, if_pos h0]
    have hx : oneX ⟨(rowE x).toArray⟩ = x := by
      have hg := get_four ⟨(rowE x).toArray⟩
      rw [if_pos (by rw [ba_size, hl]; decide)] at hg
      have hp := get_put (l := [-2, -2, -2, -2]) (m := fourN x) (b := rawE x) [0, 0] [0, 0] rfl rfl (by rw [four_puts, if_pos (isN_any h h0).1])
      have e : [0, 0] ++ (rawE x ++ [0, 0]) = rowE x := by rw [rowE_any h h0]; rfl
      rw [e] at hp
      have hq : fourN (oneX ⟨(rowE x).toArray⟩) = fourN x := (Prod.mk.inj (hg.symm.trans hp)).1
      unfold fourN at hq
      obtain ⟨a, b, c, d, e⟩ := x
      simp only at h0
      subst h0
      simp only [List.cons.injEq, and_true] at hq
      obtain ⟨q1, q2, q3, q4⟩ := hq
      unfold oneX at q1 q2 q3 q4 ⊢
      simp only at q1 q2 q3 q4
      rw [q1, q2, q3, q4]
    rw [hl, if_neg (by decide), if_neg (by decide), hx, if_pos h]
def widN (far : Bool) : Nat := if far = true then 4 else 2
def plc (s : ByteArray) (far : Bool) (i : Nat) : Int := if far = true then takeN (s.extract (4 * i) s.size) 4 else dbl (takeN (s.extract (2 * i) s.size) 2)
theorem places_eq (s : ByteArray) (g : Nat) (far : Bool) : placesN s g far = if widN far * (g + 1) ≤ s.size then ((List.range (g + 1)).map (plc s far), 0) else ([], 4) := by
  unfold placesN widN plc
  cases far with
  | true =>
    rw [if_pos rfl]
    have h := get_rep s (s := 4) (by decide) 0 (g + 1)
    simp only [Nat.zero_add] at h
    exact h
  | false =>
    rw [if_neg Bool.false_ne_true]
    have h := get_rep s (s := 2) (by decide) 0 (g + 1)
    simp only [Nat.zero_add] at h
    have h' : getN s 0 (repN [2] (g + 1)) = if 2 * (g + 1) ≤ s.size then ((List.range (g + 1)).map (fun i => takeN (s.extract (2 * i) s.size) 2), 0) else ([], 4) := h
    rw [h']
    simp only [Bool.false_eq_true, if_false]
    by_cases hc : 2 * (g + 1) ≤ s.size
    · simp only [if_pos hc, if_true, List.map_map]; rfl
    · simp only [if_neg hc]; rfl
theorem getsN_step (t : ByteArray) (a b : Int) (q : List Int) : getsN t (a :: b :: q) = if b < a then ([], 5) else if (t.size : Int) < b then ([], 4) else if (oneP (t.extract a.toNat b.toNat)).2 ≠ 0 then ([], (oneP (t.extract a.toNat b.toNat)).2) else
      if (getsN t (b :: q)).2 = 0 then ((oneP (t.extract a.toNat b.toNat)).1 :: (getsN t (b :: q)).1, 0) else ([], (getsN t (b :: q)).2) := by
  conv => lhs; unfold getsN
theorem gets_told (t : ByteArray) : ∀ L : List Int, (getsN t L).2 = 0 → (getsN t L).1.length = L.length - 1 ∧ ∀ x ∈ (getsN t L).1, isN x = true
  | [], _ => ⟨rfl, fun x hx => by simp [getsN] at hx⟩
  | [a], _ => ⟨rfl, fun x hx => by simp [getsN] at hx⟩
  | a :: b :: q, h => by
    rw [getsN_step] at h ⊢
    by_cases h1 : b < a
    · rw [if_pos h1] at h; exact absurd h (by decide)
    rw [if_neg h1] at h ⊢
    by_cases h2 : (t.size : Int) < b
    · rw [if_pos h2] at h; exact absurd h (by decide)
    rw [if_neg h2] at h ⊢
    by_cases h3 : (oneP (t.extract a.toNat b.toNat)).2 ≠ 0
    · rw [if_pos h3] at h; exact absurd h h3
    rw [if_neg h3] at h ⊢
    by_cases h4 : (getsN t (b :: q)).2 = 0
    · rw [if_pos h4]
      obtain ⟨g1, g2⟩ := gets_told t (b :: q) h4
      refine ⟨by simp only [List.length_cons] at g1 ⊢; omega, fun x hx => ?_⟩
      rcases List.mem_cons.1 hx with hx | hx
      · rw [hx]; exact oneP_is (by simpa using h3)
      · exact g2 x hx
    · rw [if_neg h4] at h; exact absurd h h4
theorem gets_back : ∀ (l : List S30) (pre post : List UInt8), (∀ x ∈ l, isN x = true) → getsN ⟨(pre ++ (l.flatMap rowE ++ post)).toArray⟩ ((pre.length : Int) :: atsN 1 pre.length l) = (l, 0)
  | [], pre, post, _ => rfl
  | x :: l, pre, post, h => by
    have hx := h x List.mem_cons_self
    have ih := gets_back l (pre ++ rowE x) post (fun y hy => h y (List.mem_cons_of_mem _ hy))
    rw [List.length_append] at ih
    have hL : pre ++ rowE x ++ (l.flatMap rowE ++ post) = pre ++ ((x :: l).flatMap rowE ++ post) := by simp
    rw [hL] at ih
    simp only [atsN, Nat.div_one]
    rw [getsN_step]
    have hsz : (⟨(pre ++ ((x :: l).flatMap rowE ++ post)).toArray⟩ : ByteArray).size = pre.length + (rowE x).length + (l.flatMap rowE ++ post).length := by
      rw [ba_size]; simp; omega
    have hcut : (⟨(pre ++ ((x :: l).flatMap rowE ++ post)).toArray⟩ : ByteArray).extract ((pre.length : Int).toNat) (((pre.length + (rowE x).length : Nat) : Int).toNat) = ⟨(rowE x).toArray⟩ := by
      rw [Int.toNat_natCast, Int.toNat_natCast, ba_cut, ← hL, ← List.length_append, List.take_left, List.drop_left]
    rw [if_neg (by omega), if_neg (by rw [hsz]; omega), hcut, one_row hx, if_neg (fun h => h rfl), ih, if_pos rfl]
end Go.Proofs.Ytjmliafplgjkhaa.P
end
section
namespace Go.Proofs.Ytjmliafplgjkhaa.P
open Go.RowKit Go.Proofs.YtjmliafplgjkhaaW.PrintWords Go.Proofs.YtjmliafplgjkhaaW.PrintLast Go.Proofs.YtjmliafplgjkhaaW.PrintMore
set_option linter.unusedSimpArgs false
set_option linter.unusedVariables false
def totN (l : List S30) : Nat := (l.flatMap rowE).length
def manyE (l : List S30) : Nat := (l.filter (fun x => x.f0)).length
theorem tot_many : ∀ l : List S30, (∀ x ∈ l, isN x = true) → totN l = 12 * manyE l
  | [], _ => rfl
  | x :: l, h => by
    have h1 := rowE_length (h x List.mem_cons_self)
    have h2 := tot_many l (fun y hy => h y (List.mem_cons_of_mem _ hy))
    unfold totN manyE at *
    rw [List.flatMap_cons, List.length_append, h1, h2, List.filter_cons]
    cases x.f0 with
    | true => simp; omega
    | false => simp
theorem many_le (l : List S30) : manyE l ≤ l.length := List.length_filter_le _ _
theorem puts_rep (s : Int) : ∀ L : List Int, (∀ v ∈ L, fitsN v s = true) → puts (repN [s] L.length) L = some (L.flatMap (fun v => bytesN v s.natAbs))
  | [], _ => rfl
  | v :: L, h => by
    simp only [List.length_cons, repN, List.cons_append, List.nil_append, puts]
    rw [if_pos (h v List.mem_cons_self), puts_rep s L (fun u hu => h u (List.mem_cons_of_mem _ hu)), List.flatMap_cons]
    rfl
theorem ats_told (d : Nat) : ∀ (l : List S30) (n : Nat), atsN d n l = (List.range l.length).map (fun i => (((n + totN (l.take (i + 1))) / d : Nat) : Int))
  | [], _ => rfl
  | x :: l, n => by
    rw [List.length_cons, List.range_succ_eq_map, List.map_cons, List.map_map]
    simp only [atsN]
    rw [ats_told d l (n + (rowE x).length)]
    congr 1
    · simp [totN]
    · apply List.map_congr_left
      intro i _
      simp only [Function.comp_apply, List.take_succ_cons, totN, List.flatMap_cons, List.length_append]
      rw [Nat.add_assoc]
theorem offs_told (d : Nat) (l : List S30) : (0 :: atsN d 0 l) = (List.range (l.length + 1)).map (fun i => ((totN (l.take i) / d : Nat) : Int)) := by
  rw [List.range_succ_eq_map, List.map_cons, List.map_map, ats_told]
  congr 1
  · simp [totN]
  · apply List.map_congr_left
    intro i _
    simp only [Function.comp_apply, Nat.zero_add, Nat.succ_eq_add_one]
theorem tot_take (l : List S30) (i : Nat) : totN (l.take i) ≤ totN l := by
  have e : l = l.take i ++ l.drop i := (List.take_append_drop i l).symm
  conv => rhs; rw [e]
  unfold totN
  rw [List.flatMap_append, List.length_append]; omega
def locaN (far : Bool) (l : List S30) : List UInt8 := (0 :: atsN (byOf far) 0 l).flatMap (fun v => bytesN v (widN far))
theorem offs_fit (l : List S30) (far : Bool) (ht : totN l ≤ 786420) (hn : far = false → totN l ≤ 131064) : ∀ v ∈ (0 :: atsN (byOf far) 0 l), fitsN v (sizeP far) = true := by
  intro v hv
  rw [offs_told] at hv
  obtain ⟨i, _, rfl⟩ := List.mem_map.1 hv
  have h1 := tot_take l i
  cases far with
  | true =>
    have e : (256 : Int) ^ (4 : Int).natAbs = 4294967296 := by decide
    have e1 : byOf true = 1 := rfl
    unfold fitsN sizeP
    rw [if_pos rfl, if_neg (by decide), e, e1, Nat.div_one]
    exact decide_eq_true (by omega)
  | false =>
    have h2 := hn rfl
    have e : (256 : Int) ^ (2 : Int).natAbs = 65536 := by decide
    have e1 : byOf false = 2 := rfl
    unfold fitsN sizeP
    rw [if_neg Bool.false_ne_true, if_neg (by decide), e, e1]
    exact decide_eq_true (by omega)
theorem size_far (far : Bool) : (sizeP far).natAbs = widN far := by cases far <;> rfl
theorem offs_length (d : Nat) (l : List S30) : (0 :: atsN d 0 l).length = l.length + 1 := by rw [List.length_cons, atsN_length]
theorem loca_puts (l : List S30) (far : Bool) (ht : totN l ≤ 786420) (hn : far = false → totN l ≤ 131064) : puts (repN [sizeP far] (l.length + 1)) (0 :: atsN (byOf far) 0 l) = some (locaN far l) := by
  have h := puts_rep (sizeP far) _ (offs_fit l far ht hn)
  rw [offs_length, size_far] at h
  exact h
theorem far_size (far : Bool) : isSize (sizeP far) = true := by cases far <;> rfl
theorem tot_bound (l : List S30) (hl : l.length ≤ 65535) (hi : ∀ x ∈ l, isN x = true) : totN l ≤ 786420 := by
  have := rows_len hi
  unfold totN; omega
theorem put_eq (l : List S30) (far : Bool) (h : l.length ≠ 0 ∧ l.length ≤ 65535) (hi : ∀ x ∈ l, isN x = true) : putE l far = if far = false ∧ 131064 < totN l then (⟨#[]⟩, ⟨#[]⟩, 7) else (⟨(locaN far l).toArray⟩, ⟨(l.flatMap rowE).toArray⟩, 0) := by
  rw [putE_right h hi]
  show (if far = false ∧ 131064 < totN l then _ else _) = _
  by_cases hc : far = false ∧ 131064 < totN l
  · rw [if_pos hc, if_pos hc]
  · have hn : far = false → totN l ≤ 131064 := fun hf => by
      rcases Nat.lt_or_ge 131064 (totN l) with h2 | h2
      · exact absurd ⟨hf, h2⟩ hc
      · exact h2
    have hp : putN (repN [sizeP far] (l.length + 1)) (0 :: atsN (byOf far) 0 l) = (⟨(locaN far l).toArray⟩, 0) := by
      unfold putN
      rw [if_neg (by
        rintro (h | h)
        · rw [rep_sizes (far_size far)] at h; exact absurd h (by decide)
        · rw [rep_one, offs_length] at h; exact h rfl), loca_puts l far (tot_bound l h.2 hi) hn]
    rw [if_neg hc, if_neg hc, hp, if_pos rfl]
theorem tot_even (l : List S30) (hi : ∀ x ∈ l, isN x = true) (i : Nat) : totN (l.take i) % 2 = 0 := by
  rw [tot_many _ (fun x hx => hi x (List.mem_of_mem_take hx))]; omega
theorem dbl_half (n : Nat) (h : n ≤ 786420) (he : n % 2 = 0) : dbl ((n / 2 : Nat) : Int) = (n : Int) := by
  obtain ⟨m, rfl⟩ : ∃ m, n = 2 * m := ⟨n / 2, by omega⟩
  have e : 2 * m / 2 = m := by omega
  rw [e]
  unfold dbl wrap64
  omega
theorem offs_dbl (l : List S30) (hi : ∀ x ∈ l, isN x = true) (ht : totN l ≤ 786420) : (0 :: atsN 2 0 l).map dbl = 0 :: atsN 1 0 l := by
  have h2 := offs_told 2 l
  have h1 := offs_told 1 l
  rw [h2, h1, List.map_map]
  refine List.map_congr_left (fun i _ => ?_)
  have e := dbl_half (totN (l.take i)) (Nat.le_trans (tot_take l i) ht) (tot_even l hi i)
  rw [Function.comp_apply, Nat.div_one]
  rw [e]
theorem places_back (l : List S30) (far : Bool) (more : ByteArray) (hi : ∀ x ∈ l, isN x = true) (ht : totN l ≤ 786420) (hn : far = false → totN l ≤ 131064) : placesN ((⟨(locaN far l).toArray⟩ : ByteArray) ++ more) l.length far = (0 :: atsN 1 0 l, 0) := by
  have hg := get_put (l := repN [sizeP far] (l.length + 1)) (m := 0 :: atsN (byOf far) 0 l) (b := locaN far l) [] more.data.toList (by rw [rep_one, offs_length]) (rep_sizes (far_size far) _) (loca_puts l far ht hn)
  rw [ba_more]
  unfold placesN
  cases far with
  | true =>
    rw [if_pos rfl]
    exact hg
  | false =>
    rw [if_neg Bool.false_ne_true]
    have hg2 : getN ⟨(locaN false l ++ more.data.toList).toArray⟩ 0 (repN [2] (l.length + 1)) = (0 :: atsN 2 0 l, 0) := hg
    rw [hg2, if_pos rfl, offs_dbl l hi ht]
theorem get_back (l : List S30) (far : Bool) (m1 m2 : ByteArray) (hi : ∀ x ∈ l, isN x = true) (ht : totN l ≤ 786420) (hn : far = false → totN l ≤ 131064) : getX ((⟨(locaN far l).toArray⟩ : ByteArray) ++ m1) ((⟨(l.flatMap rowE).toArray⟩ : ByteArray) ++ m2) l.length far = (l, 0) := by
  unfold getX
  rw [places_back l far m1 hi ht hn, if_neg (fun h => h rfl), ba_more]
  exact gets_back l [] m2.data.toList hi
theorem ba_none (t : ByteArray) : t ++ (⟨#[]⟩ : ByteArray) = t := by
  apply ByteArray.ext
  rw [ByteArray.data_append]
  simp
theorem get_told {s t : ByteArray} {g : Nat} {far : Bool} {l : List S30} (h : getX s t g far = (l, 0)) : l.length = g ∧ (∀ x ∈ l, isN x = true) ∧ widN far * (g + 1) ≤ s.size := by
  unfold getX at h
  rw [places_eq] at h
  by_cases hc : widN far * (g + 1) ≤ s.size
  · rw [if_pos hc, if_neg (fun h => h rfl)] at h
    have h2 : (getsN t ((List.range (g + 1)).map (plc s far))).2 = 0 := by rw [h]
    obtain ⟨g1, g2⟩ := gets_told t _ h2
    rw [h] at g1 g2
    simp only [List.length_map, List.length_range] at g1
    exact ⟨by omega, g2, hc⟩
  · rw [if_neg hc, if_pos (by decide)] at h
    exact absurd (Prod.mk.inj h).2 (by decide)
theorem get_err {s t : ByteArray} {g : Nat} {far : Bool} (h : (getX s t g far).2 ≠ 0) : (getX s t g far).1 = [] := by
  unfold getX at h ⊢
  split
  · rfl
  · rename_i hc
    rw [if_neg hc] at h
    exact getsN_nil t _ h
theorem rd_get (l : List S30) (i : Nat) (h : i < l.length) : rd_T30 l (i : Int) = l[i] := by
  unfold rd_T30
  rw [Int.toNat_natCast, List.getD_eq_getElem?_getD, List.getElem?_eq_getElem h]; rfl
end Go.Proofs.Ytjmliafplgjkhaa.P
end
section
namespace Go.Proofs.Ytjmliafplgjkhaa.P
open Go.RowKit Go.Proofs.YtjmliafplgjkhaaW.PrintWords Go.Proofs.YtjmliafplgjkhaaW.PrintLast Go.Proofs.YtjmliafplgjkhaaW.PrintMore
set_option linter.unusedSimpArgs false
set_option linter.unusedVariables false
theorem drawn_told (k : Nat) (hk : 8 ≤ k) : vinculumlaw07_drawn.f k = some true :=
  at_rounds (g := fun k => vinculumlaw07_drawn.f k) (fun k => vinculumlaw07_drawn.mono k) hk (by decide +kernel)
theorem put_some (l : List S30) (far : Bool) (h : l.length ≤ 65535) : glyf_Put.f l far = some (putE l far) := by
  unfold glyf_Put.f
  rw [if_pos (by omega)]
theorem put_few (l : List S30) (far : Bool) (h : l.length ≤ 10000) (h0 : l ≠ []) (hi : ∀ x ∈ l, isN x = true) : putE l far = (⟨(locaN far l).toArray⟩, ⟨(l.flatMap rowE).toArray⟩, 0) := by
  have hl : l.length ≠ 0 := fun e => h0 (List.length_eq_zero_iff.1 e)
  have h1 := tot_many l hi
  have h2 := many_le l
  rw [put_eq l far ⟨hl, by omega⟩ hi, if_neg (by rintro ⟨_, h⟩; omega)]
theorem get_back_f (l : List S30) (far : Bool) (m1 m2 : ByteArray) (h : l.length ≤ 10000) (h0 : l ≠ []) (hi : ∀ x ∈ l, isN x = true) : glyf_Get.f ((⟨(locaN far l).toArray⟩ : ByteArray) ++ m1) ((⟨(l.flatMap rowE).toArray⟩ : ByteArray) ++ m2) (l.length : Int) far = some (l, 0) := by
  have hl : l.length ≠ 0 := fun e => h0 (List.length_eq_zero_iff.1 e)
  have h1 := tot_many l hi
  have h2 := many_le l
  unfold glyf_Get.f
  rw [if_neg (by omega), Int.toNat_natCast, get_back l far m1 m2 hi (by omega) (fun _ => by omega)]
theorem same_self' (l : List S30) (h : l.length ≤ 70000) (k : Nat) (hk : l.length < k) : vinculumref07_Same.f k l l = some true := by
  unfold vinculumref07_Same.f
  rw [if_pos rfl]
  have hs : ∀ (d : Nat), ∀ k i, l.length - i = d → i ≤ l.length → d < k → vinculumref07_Same.l0 k l l (i : Int) = some true := by
    intro d
    induction d with
    | zero =>
      intro k i hd hi hk
      obtain ⟨k, rfl⟩ : ∃ n, k = n + 1 := ⟨k - 1, by omega⟩
      simp only [vinculumref07_Same.l0]
      rw [if_neg (by omega)]
    | succ d ih =>
      intro k i hd hi hk
      obtain ⟨k, rfl⟩ : ∃ n, k = n + 1 := ⟨k - 1, by omega⟩
      have hw : wrap64 ((i : Int) + 1) = ((i + 1 : Nat) : Int) := by unfold wrap64; omega
      have := ih k (i + 1) (by omega) (by omega) (by omega)
      simp only [vinculumref07_Same.l0]
      rw [if_pos (by omega), if_pos (by omega), if_pos (by omega), hw, if_neg (by simp)]
      exact this
  exact hs l.length k 0 (by omega) (by omega) hk
end Go.Proofs.Ytjmliafplgjkhaa.P
end
section
namespace Go.Proofs.Ytjmliafplgjkhaa.Pure
open Go.RowKit Go.Proofs.Ytjmliafplgjkhaa.P Go.Proofs.YtjmliafplgjkhaaW.PrintWords Go.Proofs.YtjmliafplgjkhaaW.PrintLast
set_option linter.unusedSimpArgs false
set_option linter.unusedVariables false
theorem is_there (l : List S30) (i : Nat) (h : i < l.length) (hi : ∀ x ∈ l, isN x = true) : glyf_Is.f ((rd_T30 l (i : Int)).f0) ((rd_T30 l (i : Int)).f1) ((rd_T30 l (i : Int)).f2) ((rd_T30 l (i : Int)).f3) ((rd_T30 l (i : Int)).f4) = some true := by
  rw [rd_get l i h, is_some, hi _ (List.getElem_mem h)]
theorem only_end (l : List S30) (far : Bool) (h0 : l ≠ []) (hl : l.length ≤ 2000) (hi : ∀ x ∈ l, isN x = true) (k : Nat) (hk : 4000 ≤ k) : vinculumlaw07_GlyfOnly.l0 k (l.length : Int) far l (l.length : Int) = some true := by
  obtain ⟨k, rfl⟩ : ∃ n, k = n + 1 := ⟨k - 1, by omega⟩
  have hg := get_back_f l far ⟨#[]⟩ ⟨#[]⟩ (by omega) h0 hi
  rw [ba_none, ba_none] at hg
  simp only [vinculumlaw07_GlyfOnly.l0]
  rw [if_neg (by omega), put_some l far (by omega), put_few l far (by omega) h0 hi]
  simp only [Option.bind_some]
  rw [hg, drawn_told k (by omega)]
  simp only [Option.bind_some]
  rw [if_pos trivial, if_pos trivial, if_pos trivial, if_pos trivial, same_self' l (by omega) k (by omega)]
  rfl
theorem only_loop (l : List S30) (far : Bool) (h0 : l ≠ []) (hl : l.length ≤ 2000) (hi : ∀ x ∈ l, isN x = true) (d : Nat) : ∀ k i, l.length - i = d → i ≤ l.length → 4000 + d ≤ k → vinculumlaw07_GlyfOnly.l0 k (l.length : Int) far l (i : Int) = some true := by
  induction d with
  | zero =>
    intro k i hd hle hk
    have : i = l.length := by omega
    subst this
    exact only_end l far h0 hl hi k (by omega)
  | succ d ih =>
    intro k i hd hle hk
    obtain ⟨k, rfl⟩ : ∃ n, k = n + 1 := ⟨k - 1, by omega⟩
    have hw : wrap64 ((i : Int) + 1) = ((i + 1 : Nat) : Int) := by unfold wrap64; omega
    simp only [vinculumlaw07_GlyfOnly.l0]
    rw [if_pos (by omega), if_pos (by omega), is_there l i (by omega) hi]
    simp only [Option.bind_some]
    rw [if_pos trivial, hw]
    exact ih k (i + 1) (by omega) (by omega) (by omega)
theorem only_told (s t : ByteArray) (g : Int) (far : Bool) (hs : s.size ≤ 140737488351232) (ht : t.size ≤ 140737488351232) (K : Nat) (hK : 8000 ≤ K) : vinculumlaw07_GlyfOnly.f K s t g far = some true := by
  have hw : wrap64 ((s.size : Int) + (t.size : Int)) = (s.size : Int) + (t.size : Int) := by unfold wrap64; omega
  unfold vinculumlaw07_GlyfOnly.f
  rw [hw]
  by_cases hb : (s.size : Int) + (t.size : Int) > 4000
  · rw [if_pos hb]
  rw [if_neg hb]
  by_cases hg : g < 1 ∨ 65535 < g
  · have e : glyf_Get.f s t g far = some ([], 1) := by unfold glyf_Get.f; rw [if_pos hg]
    rw [e]
    simp only [Option.bind_some]
    rw [if_neg (by decide), drawn_told K (by omega)]
    rfl
  · obtain ⟨g, rfl⟩ := Int.eq_ofNat_of_zero_le (show 0 ≤ g by omega)
    have e : glyf_Get.f s t (g : Int) far = some (getX s t g far) := by unfold glyf_Get.f; rw [if_neg hg, Int.toNat_natCast]
    rw [e]
    simp only [Option.bind_some]
    by_cases h0 : (getX s t g far).2 = 0
    · obtain ⟨l, hl⟩ : ∃ l, l = (getX s t g far).1 := ⟨_, rfl⟩
      obtain ⟨hlen, hi, hsz⟩ := get_told (s := s) (t := t) (g := g) (far := far) (l := l) (by rw [hl, ← h0])
      have hwid : 2 ≤ widN far := by cases far <;> decide
      have hm : 2 * (g + 1) ≤ widN far * (g + 1) := Nat.mul_le_mul_right _ hwid
      have hne : l ≠ [] := fun e => by rw [e] at hlen; simp at hlen; omega
      rw [if_pos h0, ← hl, ← hlen]
      exact only_loop l far hne (by omega) hi l.length K 0 (by omega) (by omega) (by omega)
    · rw [if_neg h0, get_err h0, drawn_told K (by omega)]
      rfl
theorem GlyfOnly : vinculumlaw07_GlyfOnly.Pure := fun s t g far hs ht _ => ⟨8000, only_told s t g far hs ht 8000 (Nat.le_refl _)⟩
end Go.Proofs.Ytjmliafplgjkhaa.Pure
end
