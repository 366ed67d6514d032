/- A part of the proof of the law GlyfDoes: the words, contracts and plain facts that it needs, no more. Each says its own condition. -/
import Derived.Test.YtjmliafplgjkhaaZGlyfDoesz
import Derived.Test.YtjmliafplgjkhaaZGlyfDoesy
import Derived.Test.YtjmliafplgjkhaaZGlyfDoesr
import Derived.Test.YtjmliafplgjkhaaZGlyfDoesp
import Derived.Test.YtjmliafplgjkhaaZGlyfDoesq
section
namespace Go.Proofs.Ytjmliafplgjkhaa.P
open Go.RowKit Go.Proofs.YtjmliafplgjkhaaW.PrintWords Go.Proofs.YtjmliafplgjkhaaW.PrintLast Go.Proofs.YtjmliafplgjkhaaW.PrintMore
set_option linter.unusedSimpArgs false
set_option linter.unusedVariables false
def fit4 (x : S30) : Bool := fitsN x.f1 (-2) && (fitsN x.f2 (-2) && (fitsN x.f3 (-2) && fitsN x.f4 (-2)))
def rawE (x : S30) : List UInt8 := bytesN x.f1 2 ++ (bytesN x.f2 2 ++ (bytesN x.f3 2 ++ (bytesN x.f4 2 ++ [])))
theorem four_puts (x : S30) : puts [-2, -2, -2, -2] (fourN x) = if fit4 x = true then some (rawE x) else none := by
  unfold fourN fit4 rawE
  simp only [puts]
  cases fitsN x.f1 (-2) <;> cases fitsN x.f2 (-2) <;> cases fitsN x.f3 (-2) <;> cases fitsN x.f4 (-2) <;> rfl
theorem four_put (x : S30) : putN [-2, -2, -2, -2] (fourN x) = if fit4 x = true then (⟨(rawE x).toArray⟩, 0) else (⟨#[]⟩, 2) := by
  unfold putN
  rw [if_neg (by rintro (h | h); · exact absurd h (by decide)
                 · exact h rfl), four_puts]
  cases fit4 x <;> rfl
theorem isN_told (x : S30) : isN x = if x.f0 = true then (fit4 x && (decide (x.f1 ≤ x.f3) && decide (x.f2 ≤ x.f4))) else (x.f1 == 0 && (x.f2 == 0 && (x.f3 == 0 && x.f4 == 0))) := by
  unfold isN
  rw [four_put]
  cases fit4 x <;> rfl
theorem isN_any {x : S30} (h : isN x = true) (h0 : x.f0 = true) : fit4 x = true ∧ x.f1 ≤ x.f3 ∧ x.f2 ≤ x.f4 := by
  rw [isN_told, if_pos h0] at h
  simpa using h
theorem rowE_any {x : S30} (h : isN x = true) (h0 : x.f0 = true) : rowE x = 0 :: 0 :: (rawE x ++ [0, 0]) := by
  unfold rowE
  rw [if_pos h0]
  unfold bytesE
  rw [four_put, if_pos (isN_any h h0).1]
theorem rowE_none {x : S30} (h0 : x.f0 = false) : rowE x = [] := by
  unfold rowE
  rw [if_neg (by rw [h0]; decide)]
theorem rawE_length (x : S30) : (rawE x).length = 8 := by
  unfold rawE
  simp [bytesN_length]
theorem rowE_length {x : S30} (h : isN x = true) : (rowE x).length = if x.f0 = true then 12 else 0 := by
  cases h0 : x.f0 with
  | false => rw [rowE_none h0]; rfl
  | true => rw [rowE_any h h0, List.length_cons, List.length_cons, List.length_append, rawE_length]; rfl
def at2 (s : ByteArray) (p : Nat) : Int := takeN (s.extract p s.size) (-2)
def oneX (s : ByteArray) : S30 := ⟨true, at2 s 2, at2 s 4, at2 s 6, at2 s 8⟩
theorem get_four (s : ByteArray) : getN s 2 [-2, -2, -2, -2] = if 10 ≤ s.size then (fourN (oneX s), 0) else ([], 4) := by
  have h := get_rep s (s := -2) (by decide) 2 4
  have e : repN [-2] 4 = [-2, -2, -2, -2] := rfl
  have e2 : (-2 : Int).natAbs = 2 := rfl
  rw [e, e2] at h
  refine Eq.trans h ?_
  by_cases hc : 10 ≤ s.size
  · rw [if_pos hc, if_pos (by omega), show List.range 4 = [0, 1, 2, 3] from by decide]
    simp only [List.map_cons, List.map_nil, Nat.mul_zero, Nat.add_zero, Nat.mul_one, show 2 + 2 = 4 from rfl, show 2 + 2 * 2 = 6 from rfl, show 2 + 2 * 3 = 8 from rfl]
    unfold fourN oneX at2
    simp only
  · rw [if_neg hc, if_neg (by omega)]
theorem list_nil (s : ByteArray) : s.toList = ([] : List UInt8) ↔ s.size = 0 := by
  rw [ByteArray.toList_eq, ← ba_len]
  exact List.length_eq_zero_iff.symm
def oneT (s : ByteArray) : Bool × Int × Int × Int × Int × Int := if s.size = 0 then (false, 0, 0, 0, 0, 0) else if s.size < 10 then (false, 0, 0, 0, 0, 4) else if isN (oneX s) = true then (true, at2 s 2, at2 s 4, at2 s 6, at2 s 8, 0) else (false, 0, 0, 0, 0, 5)
theorem one_eq (s : ByteArray) : glyf_one.f s = some (oneT s) := by
  unfold glyf_one.f oneT glyf_fields.f bin_Get.f
  by_cases h : s.size = 0
  · rw [if_pos ((list_nil s).2 h), if_pos h]
  · rw [if_neg (fun e => h ((list_nil s).1 e)), if_neg h]
    simp only [Option.bind_some]
    rw [if_pos (by decide), get_four]
    simp only [Option.bind_some]
    by_cases h2 : 10 ≤ s.size
    · rw [if_pos h2, if_neg (show ¬ s.size < 10 by omega)]
      simp only
      have h3 : glyf_Is.f true (rd (fourN (oneX s)) 0) (rd (fourN (oneX s)) 1) (rd (fourN (oneX s)) 2) (rd (fourN (oneX s)) 3) = some (isN (oneX s)) := is_some (oneX s)
      have hl4 : (fourN (oneX s)).length = 4 := rfl
      rw [if_pos trivial, hl4, if_pos (by decide), if_pos (by decide), if_pos (by decide), if_pos (by decide), h3]
      simp only [Option.bind_some]
      cases isN (oneX s) <;> rfl
    · rw [if_neg h2, if_pos (show s.size < 10 by omega)]
      simp only
      rw [if_neg (by decide)]
theorem oneP_eq (s : ByteArray) : oneP s = if s.size = 0 then (z30, 0) else if s.size < 10 then (z30, 4) else if isN (oneX s) = true then (oneX s, 0) else (z30, 5) := by
  unfold oneP
  rw [one_eq]
  unfold oneT
  by_cases h : s.size = 0
  · rw [if_pos h, if_pos h]; rfl
  · rw [if_neg h, if_neg h]
    by_cases h2 : s.size < 10
    · rw [if_pos h2, if_pos h2]; rfl
    · rw [if_neg h2, if_neg h2]
      cases isN (oneX s) <;> rfl
theorem oneP_is {s : ByteArray} (h : (oneP s).2 = 0) : isN (oneP s).1 = true := by
  rw [oneP_eq] at h ⊢
  by_cases h0 : s.size = 0
  · rw [if_pos h0]; rfl
  · rw [if_neg h0] at h ⊢
    by_cases h2 : s.size < 10
    · rw [if_pos h2] at h; exact absurd h (by decide)
    · rw [if_neg h2] at h ⊢
      cases hi : isN (oneX s) with
      | true => rw [if_pos rfl]; exact hi
      | false => rw [hi, if_neg Bool.false_ne_true] at h; exact absurd (show (5 : Int) = 0 from h) (by decide)
def widN (far : Bool) : Nat := if far = true then 4 else 2
def plc (s : ByteArray) (far : Bool) (i : Nat) : Int := if far = true then takeN (s.extract (4 * i) s.size) 4 else dbl (takeN (s.extract (2 * i) s.size) 2)
theorem places_eq (s : ByteArray) (g : Nat) (far : Bool) : placesN s g far = if widN far * (g + 1) ≤ s.size then ((List.range (g + 1)).map (plc s far), 0) else ([], 4) := by
  unfold placesN widN plc
  cases far with
  | true =>
    rw [if_pos rfl]
    have h := get_rep s (s := 4) (by decide) 0 (g + 1)
    simp only [Nat.zero_add] at h
    exact h
  | false =>
    rw [if_neg Bool.false_ne_true]
    have h := get_rep s (s := 2) (by decide) 0 (g + 1)
    simp only [Nat.zero_add] at h
    have h' : getN s 0 (repN [2] (g + 1)) = if 2 * (g + 1) ≤ s.size then ((List.range (g + 1)).map (fun i => takeN (s.extract (2 * i) s.size) 2), 0) else ([], 4) := h
    rw [h']
    simp only [Bool.false_eq_true, if_false]
    by_cases hc : 2 * (g + 1) ≤ s.size
    · simp only [if_pos hc, if_true, List.map_map]; rfl
    · simp only [if_neg hc]; rfl
theorem plc_range (s : ByteArray) (far : Bool) (i : Nat) : 0 ≤ plc s far i ∧ plc s far i < 4294967296 := by
  unfold plc
  cases far with
  | true =>
    rw [if_pos rfl]
    unfold takeN
    rw [if_neg (by rintro ⟨h, _⟩; exact absurd h (by decide))]
    have := numAt_bd (s.extract (4 * i) s.size) 4
    have e4 : (256 : Int) ^ 4 = 4294967296 := by decide
    rw [e4] at this
    exact this
  | false =>
    rw [if_neg Bool.false_ne_true]
    unfold takeN dbl
    rw [if_neg (by rintro ⟨h, _⟩; exact absurd h (by decide))]
    have := numAt_bd (s.extract (2 * i) s.size) 2
    have e4 : (256 : Int) ^ 2 = 65536 := by decide
    rw [e4] at this
    have e : (2 : Int).natAbs = 2 := rfl
    rw [e]
    unfold wrap64; omega
theorem getsN_step (t : ByteArray) (a b : Int) (q : List Int) : getsN t (a :: b :: q) = if b < a then ([], 5) else if (t.size : Int) < b then ([], 4) else if (oneP (t.extract a.toNat b.toNat)).2 ≠ 0 then ([], (oneP (t.extract a.toNat b.toNat)).2) else
      if (getsN t (b :: q)).2 = 0 then ((oneP (t.extract a.toNat b.toNat)).1 :: (getsN t (b :: q)).1, 0) else ([], (getsN t (b :: q)).2) := by
  conv => lhs; unfold getsN
theorem gets_told (t : ByteArray) : ∀ L : List Int, (getsN t L).2 = 0 → (getsN t L).1.length = L.length - 1 ∧ ∀ x ∈ (getsN t L).1, isN x = true
  | [], _ => ⟨rfl, fun x hx => by simp [getsN] at hx⟩
  | [a], _ => ⟨rfl, fun x hx => by simp [getsN] at hx⟩
  | a :: b :: q, h => by
    rw [getsN_step] at h ⊢
    by_cases h1 : b < a
    · rw [if_pos h1] at h; exact absurd h (by decide)
    rw [if_neg h1] at h ⊢
    by_cases h2 : (t.size : Int) < b
    · rw [if_pos h2] at h; exact absurd h (by decide)
    rw [if_neg h2] at h ⊢
    by_cases h3 : (oneP (t.extract a.toNat b.toNat)).2 ≠ 0
    · rw [if_pos h3] at h; exact absurd h h3
    rw [if_neg h3] at h ⊢
    by_cases h4 : (getsN t (b :: q)).2 = 0
    · rw [if_pos h4]
      obtain ⟨g1, g2⟩ := gets_told t (b :: q) h4
      refine ⟨by simp only [List.length_cons] at g1 ⊢; omega, fun x hx => ?_⟩
      rcases List.mem_cons.1 hx with hx | hx
      · rw [hx]; exact oneP_is (by simpa using h3)
      · exact g2 x hx
    · rw [if_neg h4] at h; exact absurd h h4
end Go.Proofs.Ytjmliafplgjkhaa.P
end
section
namespace Go.Proofs.Ytjmliafplgjkhaa.P
open Go.RowKit Go.Proofs.YtjmliafplgjkhaaW.PrintWords Go.Proofs.YtjmliafplgjkhaaW.PrintLast Go.Proofs.YtjmliafplgjkhaaW.PrintMore
set_option linter.unusedSimpArgs false
set_option linter.unusedVariables false
def totN (l : List S30) : Nat := (l.flatMap rowE).length
def manyE (l : List S30) : Nat := (l.filter (fun x => x.f0)).length
theorem tot_many : ∀ l : List S30, (∀ x ∈ l, isN x = true) → totN l = 12 * manyE l
  | [], _ => rfl
  | x :: l, h => by
    have h1 := rowE_length (h x List.mem_cons_self)
    have h2 := tot_many l (fun y hy => h y (List.mem_cons_of_mem _ hy))
    unfold totN manyE at *
    rw [List.flatMap_cons, List.length_append, h1, h2, List.filter_cons]
    cases x.f0 with
    | true => simp; omega
    | false => simp
theorem many_le (l : List S30) : manyE l ≤ l.length := List.length_filter_le _ _
theorem puts_rep (s : Int) : ∀ L : List Int, (∀ v ∈ L, fitsN v s = true) → puts (repN [s] L.length) L = some (L.flatMap (fun v => bytesN v s.natAbs))
  | [], _ => rfl
  | v :: L, h => by
    simp only [List.length_cons, repN, List.cons_append, List.nil_append, puts]
    rw [if_pos (h v List.mem_cons_self), puts_rep s L (fun u hu => h u (List.mem_cons_of_mem _ hu)), List.flatMap_cons]
    rfl
theorem ats_told (d : Nat) : ∀ (l : List S30) (n : Nat), atsN d n l = (List.range l.length).map (fun i => (((n + totN (l.take (i + 1))) / d : Nat) : Int))
  | [], _ => rfl
  | x :: l, n => by
    rw [List.length_cons, List.range_succ_eq_map, List.map_cons, List.map_map]
    simp only [atsN]
    rw [ats_told d l (n + (rowE x).length)]
    congr 1
    · simp [totN]
    · apply List.map_congr_left
      intro i _
      simp only [Function.comp_apply, List.take_succ_cons, totN, List.flatMap_cons, List.length_append]
      rw [Nat.add_assoc]
theorem offs_told (d : Nat) (l : List S30) : (0 :: atsN d 0 l) = (List.range (l.length + 1)).map (fun i => ((totN (l.take i) / d : Nat) : Int)) := by
  rw [List.range_succ_eq_map, List.map_cons, List.map_map, ats_told]
  congr 1
  · simp [totN]
  · apply List.map_congr_left
    intro i _
    simp only [Function.comp_apply, Nat.zero_add, Nat.succ_eq_add_one]
theorem tot_take (l : List S30) (i : Nat) : totN (l.take i) ≤ totN l := by
  have e : l = l.take i ++ l.drop i := (List.take_append_drop i l).symm
  conv => rhs; rw [e]
  unfold totN
  rw [List.flatMap_append, List.length_append]; omega
def locaN (far : Bool) (l : List S30) : List UInt8 := (0 :: atsN (byOf far) 0 l).flatMap (fun v => bytesN v (widN far))
theorem offs_fit (l : List S30) (far : Bool) (ht : totN l ≤ 786420) (hn : far = false → totN l ≤ 131064) : ∀ v ∈ (0 :: atsN (byOf far) 0 l), fitsN v (sizeP far) = true := by
  intro v hv
  rw [offs_told] at hv
  obtain ⟨i, _, rfl⟩ := List.mem_map.1 hv
  have h1 := tot_take l i
  cases far with
  | true =>
    have e : (256 : Int) ^ (4 : Int).natAbs = 4294967296 := by decide
    have e1 : byOf true = 1 := rfl
    unfold fitsN sizeP
    rw [if_pos rfl, if_neg (by decide), e, e1, Nat.div_one]
    exact decide_eq_true (by omega)
  | false =>
    have h2 := hn rfl
    have e : (256 : Int) ^ (2 : Int).natAbs = 65536 := by decide
    have e1 : byOf false = 2 := rfl
    unfold fitsN sizeP
    rw [if_neg Bool.false_ne_true, if_neg (by decide), e, e1]
    exact decide_eq_true (by omega)
theorem size_far (far : Bool) : (sizeP far).natAbs = widN far := by cases far <;> rfl
theorem offs_length (d : Nat) (l : List S30) : (0 :: atsN d 0 l).length = l.length + 1 := by rw [List.length_cons, atsN_length]
theorem loca_puts (l : List S30) (far : Bool) (ht : totN l ≤ 786420) (hn : far = false → totN l ≤ 131064) : puts (repN [sizeP far] (l.length + 1)) (0 :: atsN (byOf far) 0 l) = some (locaN far l) := by
  have h := puts_rep (sizeP far) _ (offs_fit l far ht hn)
  rw [offs_length, size_far] at h
  exact h
theorem far_size (far : Bool) : isSize (sizeP far) = true := by cases far <;> rfl
theorem tot_bound (l : List S30) (hl : l.length ≤ 65535) (hi : ∀ x ∈ l, isN x = true) : totN l ≤ 786420 := by
  have := rows_len hi
  unfold totN; omega
theorem put_eq (l : List S30) (far : Bool) (h : l.length ≠ 0 ∧ l.length ≤ 65535) (hi : ∀ x ∈ l, isN x = true) : putE l far = if far = false ∧ 131064 < totN l then (⟨#[]⟩, ⟨#[]⟩, 7) else (⟨(locaN far l).toArray⟩, ⟨(l.flatMap rowE).toArray⟩, 0) := by
  rw [putE_right h hi]
  show (if far = false ∧ 131064 < totN l then _ else _) = _
  by_cases hc : far = false ∧ 131064 < totN l
  · rw [if_pos hc, if_pos hc]
  · have hn : far = false → totN l ≤ 131064 := fun hf => by
      rcases Nat.lt_or_ge 131064 (totN l) with h2 | h2
      · exact absurd ⟨hf, h2⟩ hc
      · exact h2
    have hp : putN (repN [sizeP far] (l.length + 1)) (0 :: atsN (byOf far) 0 l) = (⟨(locaN far l).toArray⟩, 0) := by
      unfold putN
      rw [if_neg (by
        rintro (h | h)
        · rw [rep_sizes (far_size far)] at h; exact absurd h (by decide)
        · rw [rep_one, offs_length] at h; exact h rfl), loca_puts l far (tot_bound l h.2 hi) hn]
    rw [if_neg hc, if_neg hc, hp, if_pos rfl]
theorem get_told {s t : ByteArray} {g : Nat} {far : Bool} {l : List S30} (h : getX s t g far = (l, 0)) : l.length = g ∧ (∀ x ∈ l, isN x = true) ∧ widN far * (g + 1) ≤ s.size := by
  unfold getX at h
  rw [places_eq] at h
  by_cases hc : widN far * (g + 1) ≤ s.size
  · rw [if_pos hc, if_neg (fun h => h rfl)] at h
    have h2 : (getsN t ((List.range (g + 1)).map (plc s far))).2 = 0 := by rw [h]
    obtain ⟨g1, g2⟩ := gets_told t _ h2
    rw [h] at g1 g2
    simp only [List.length_map, List.length_range] at g1
    exact ⟨by omega, g2, hc⟩
  · rw [if_neg hc, if_pos (by decide)] at h
    exact absurd (Prod.mk.inj h).2 (by decide)
theorem get_err {s t : ByteArray} {g : Nat} {far : Bool} (h : (getX s t g far).2 ≠ 0) : (getX s t g far).1 = [] := by
  unfold getX at h ⊢
  split
  · rfl
  · rename_i hc
    rw [if_neg hc] at h
    exact getsN_nil t _ h
theorem rd_get (l : List S30) (i : Nat) (h : i < l.length) : rd_T30 l (i : Int) = l[i] := by
  unfold rd_T30
  rw [Int.toNat_natCast, List.getD_eq_getElem?_getD, List.getElem?_eq_getElem h]; rfl
end Go.Proofs.Ytjmliafplgjkhaa.P
end
section
namespace Go.Proofs.Ytjmliafplgjkhaa.P
open Go.RowKit Go.Proofs.YtjmliafplgjkhaaW.PrintWords Go.Proofs.YtjmliafplgjkhaaW.PrintLast Go.Proofs.YtjmliafplgjkhaaW.PrintMore
set_option linter.unusedSimpArgs false
set_option linter.unusedVariables false
theorem drawn_told (k : Nat) (hk : 8 ≤ k) : vinculumlaw07_drawn.f k = some true :=
  at_rounds (g := fun k => vinculumlaw07_drawn.f k) (fun k => vinculumlaw07_drawn.mono k) hk (by decide +kernel)
theorem put_some (l : List S30) (far : Bool) (h : l.length ≤ 65535) : glyf_Put.f l far = some (putE l far) := by
  unfold glyf_Put.f
  rw [if_pos (by omega)]
theorem same_self' (l : List S30) (h : l.length ≤ 70000) (k : Nat) (hk : l.length < k) : vinculumref07_Same.f k l l = some true := by
  unfold vinculumref07_Same.f
  rw [if_pos rfl]
  have hs : ∀ (d : Nat), ∀ k i, l.length - i = d → i ≤ l.length → d < k → vinculumref07_Same.l0 k l l (i : Int) = some true := by
    intro d
    induction d with
    | zero =>
      intro k i hd hi hk
      obtain ⟨k, rfl⟩ : ∃ n, k = n + 1 := ⟨k - 1, by omega⟩
      simp only [vinculumref07_Same.l0]
      rw [if_neg (by omega)]
    | succ d ih =>
      intro k i hd hi hk
      obtain ⟨k, rfl⟩ : ∃ n, k = n + 1 := ⟨k - 1, by omega⟩
      have hw : wrap64 ((i : Int) + 1) = ((i + 1 : Nat) : Int) := by unfold wrap64; omega
      have := ih k (i + 1) (by omega) (by omega) (by omega)
      simp only [vinculumref07_Same.l0]
      rw [if_pos (by omega), if_pos (by omega), if_pos (by omega), hw, if_neg (by simp)]
      exact this
  exact hs l.length k 0 (by omega) (by omega) hk
end Go.Proofs.Ytjmliafplgjkhaa.P
end
section
namespace Go.Proofs.Ytjmliafplgjkhaa.P
open Go.RowKit Go.Proofs.YtjmliafplgjkhaaW.PrintWords Go.Proofs.YtjmliafplgjkhaaW.PrintLast Go.Proofs.YtjmliafplgjkhaaW.PrintMore
set_option linter.unusedSimpArgs false
set_option linter.unusedVariables false
theorem is_ref (x : S30) (k : Nat) (hk : 20 ≤ k) : vinculumref07_Is.f k x.f0 x.f1 x.f2 x.f3 x.f4 = some (isN x) := by
  rw [isN_told]
  unfold vinculumref07_Is.f
  cases x.f0 with
  | false => rfl
  | true =>
    rw [if_pos rfl, if_pos rfl]
    obtain ⟨k, rfl⟩ : ∃ n, k = n + 5 := ⟨k - 5, by omega⟩
    have e0 : rd [x.f1, x.f2, x.f3, x.f4] 0 = x.f1 := rfl
    have e1 : rd [x.f1, x.f2, x.f3, x.f4] 1 = x.f2 := rfl
    have e2 : rd [x.f1, x.f2, x.f3, x.f4] 2 = x.f3 := rfl
    have e3 : rd [x.f1, x.f2, x.f3, x.f4] 3 = x.f4 := rfl
    have w1 : wrap64 (0 + 1) = 1 := by decide +kernel
    have w2 : wrap64 (1 + 1) = 2 := by decide +kernel
    have w3 : wrap64 (2 + 1) = 3 := by decide +kernel
    have w4 : wrap64 (3 + 1) = 4 := by decide +kernel
    have hl : (([x.f1, x.f2, x.f3, x.f4] : List Int).length : Int) = 4 := rfl
    have hf : ∀ v (j : Nat), 10 ≤ j → vinculumref03_Fits.f j v (-2) = some (fitsN v (-2)) := fun v j hj => fits_told v (by decide) j (by omega)
    simp only [vinculumref07_Is.l0]
    rw [hl, w1, w2, w3, w4, e0, e1, e2, e3, hf _ _ (by omega), hf _ _ (by omega), hf _ _ (by omega), hf _ _ (by omega)]
    unfold fit4
    simp only [Option.bind_some, show (0 : Int) < 4 from by decide, show (1 : Int) < 4 from by decide, show (2 : Int) < 4 from by decide, show (3 : Int) < 4 from by decide, show (0 : Int) ≤ 0 from by decide, show (0 : Int) ≤ 1 from by decide, show (0 : Int) ≤ 2 from by decide, show (0 : Int) ≤ 3 from by decide, show ¬ (4 : Int) < 4 from by decide, if_true, if_false]
    cases fitsN x.f1 (-2) <;> cases fitsN x.f2 (-2) <;> cases fitsN x.f3 (-2) <;> cases fitsN x.f4 (-2) <;> simp only [Bool.false_eq_true, if_false, if_true, Bool.false_and, Bool.true_and, Bool.and_false]
    by_cases h : x.f1 ≤ x.f3
    · simp [h]
    · simp [h]
theorem one_ref (s : ByteArray) (k : Nat) (hk : 20 ≤ k) : vinculumref07_one.f k s = some (oneT s) := by
  unfold vinculumref07_one.f oneT
  by_cases h0 : s.size = 0
  · rw [if_pos (by omega), if_pos h0]
  rw [if_neg (by omega), if_neg h0]
  by_cases h1 : s.size < 10
  · rw [if_pos (by omega), if_pos h1]
  have o1 : vinculumref03_One.f k (s.extract 2 4) (-2) = some (at2 s 2) := one_at s 2 (s := -2) (by decide) 2 rfl (by omega) k (by omega)
  have o2 : vinculumref03_One.f k (s.extract 4 6) (-2) = some (at2 s 4) := one_at s 4 (s := -2) (by decide) 2 rfl (by omega) k (by omega)
  have o3 : vinculumref03_One.f k (s.extract 6 8) (-2) = some (at2 s 6) := one_at s 6 (s := -2) (by decide) 2 rfl (by omega) k (by omega)
  have o4 : vinculumref03_One.f k (s.extract 8 10) (-2) = some (at2 s 8) := one_at s 8 (s := -2) (by decide) 2 rfl (by omega) k (by omega)
  have h := is_ref (oneX s) k hk
  generalize isN (oneX s) = q at h ⊢
  unfold oneX at h
  simp only at h
  rw [o1, o2, o3, o4]
  simp only [Option.bind_some]
  rw [h]
  simp only [Option.bind_some]
  have c1 : (4 : Int) ≤ (s.size : Int) := by omega
  have c2 : (6 : Int) ≤ (s.size : Int) := by omega
  have c3 : (8 : Int) ≤ (s.size : Int) := by omega
  have c4 : (10 : Int) ≤ (s.size : Int) := by omega
  rw [if_neg (by omega), if_neg h1]
  simp only [c1, c2, c3, c4, show (2 : Int) ≤ 4 from by decide, show (4 : Int) ≤ 6 from by decide, show (6 : Int) ≤ 8 from by decide, show (8 : Int) ≤ 10 from by decide, if_true]
  cases q <;> rfl
theorem place_ref (s : ByteArray) (i : Nat) (far : Bool) (hi : i ≤ 65536) (h : widN far * (i + 1) ≤ s.size) (k : Nat) (hk : 20 ≤ k) : vinculumref07_place.f k s (i : Int) far = some (plc s far i) := by
  unfold vinculumref07_place.f plc
  cases far with
  | true =>
    have h' : 4 * (i + 1) ≤ s.size := h
    have w1 : wrap64 (4 * (i : Int)) = ((4 * i : Nat) : Int) := by unfold wrap64; omega
    have w2 : wrap64 (((4 * i : Nat) : Int) + 4) = ((4 * i + 4 : Nat) : Int) := by unfold wrap64; omega
    rw [if_pos rfl, w1, w2, if_pos (by omega), if_pos (by omega), if_pos (by omega), Int.toNat_natCast, Int.toNat_natCast, one_at s (4 * i) (s := 4) (by decide) 4 rfl (by omega) k (by omega), if_pos rfl]
    rfl
  | false =>
    have h' : 2 * (i + 1) ≤ s.size := h
    have w1 : wrap64 (2 * (i : Int)) = ((2 * i : Nat) : Int) := by unfold wrap64; omega
    have w2 : wrap64 (((2 * i : Nat) : Int) + 2) = ((2 * i + 2 : Nat) : Int) := by unfold wrap64; omega
    rw [if_neg Bool.false_ne_true, w1, w2, if_pos (by omega), if_pos (by omega), if_pos (by omega), Int.toNat_natCast, Int.toNat_natCast, one_at s (2 * i) (s := 2) (by decide) 2 rfl (by omega) k (by omega), if_neg Bool.false_ne_true]
    simp only [Option.bind_some]
    unfold dbl
    rw [Int.mul_comm]
end Go.Proofs.Ytjmliafplgjkhaa.P
end
section
namespace Go.Proofs.Ytjmliafplgjkhaa.P
open Go.RowKit Go.Proofs.YtjmliafplgjkhaaW.PrintWords Go.Proofs.YtjmliafplgjkhaaW.PrintLast Go.Proofs.YtjmliafplgjkhaaW.PrintMore
set_option linter.unusedSimpArgs false
set_option linter.unusedVariables false
theorem one_parts (s : ByteArray) : oneP s = (⟨(oneT s).1, (oneT s).2.1, (oneT s).2.2.1, (oneT s).2.2.2.1, (oneT s).2.2.2.2.1⟩, (oneT s).2.2.2.2.2) := by
  unfold oneP
  rw [one_eq]
def goesOn (t : ByteArray) (xs : List S30) (r : List Int) : List S30 × Int := if (getsN t r).2 = 0 then (xs ++ (getsN t r).1, 0) else ([], (getsN t r).2)
theorem goes_step (t : ByteArray) (xs : List S30) (a b : Int) (q : List Int) : goesOn t xs (a :: b :: q) = if b < a then ([], 5) else if (t.size : Int) < b then ([], 4) else if (oneP (t.extract a.toNat b.toNat)).2 = 0 then goesOn t (xs ++ [(oneP (t.extract a.toNat b.toNat)).1]) (b :: q) else ([], (oneP (t.extract a.toNat b.toNat)).2) := by
  unfold goesOn
  rw [getsN_step]
  by_cases h1 : b < a
  · rw [if_pos h1, if_pos h1, if_neg (by decide)]
  rw [if_neg h1, if_neg h1]
  by_cases h2 : (t.size : Int) < b
  · rw [if_pos h2, if_pos h2, if_neg (by decide)]
  rw [if_neg h2, if_neg h2]
  by_cases h3 : (oneP (t.extract a.toNat b.toNat)).2 = 0
  · have h3' : ¬ (oneP (t.extract a.toNat b.toNat)).2 ≠ 0 := fun h => h h3
    simp only [if_neg h3', if_pos h3]
    by_cases h4 : (getsN t (b :: q)).2 = 0
    · simp only [if_pos h4, if_true, List.append_assoc, List.cons_append, List.nil_append]
    · simp only [if_neg h4]
  · have h3' : (oneP (t.extract a.toNat b.toNat)).2 ≠ 0 := h3
    simp only [if_pos h3', if_neg h3]
theorem ref_step (s t : ByteArray) (g : Int) (far : Bool) (xs : List S30) (i i1 a b : Int) (k : Nat) (r : List S30 × Int) (hi : i < g) (hw : wrap64 (i + 1) = i1) (hp : vinculumref07_place.f k s i far = some a) (hp1 : vinculumref07_place.f k s i1 far = some b) (ha : 0 ≤ a) (hx : xs.length < 3518437208883) (hk : 20 ≤ k)
    (ih : (oneP (t.extract a.toNat b.toNat)).2 = 0 → vinculumref07_Get.l0 k s t g far (xs ++ [(oneP (t.extract a.toNat b.toNat)).1]) i1 = some r) :
    vinculumref07_Get.l0 (k + 1) s t g far xs i = some (if b < a then ([], 5) else if (t.size : Int) < b then ([], 4) else if (oneP (t.extract a.toNat b.toNat)).2 = 0 then r else ([], (oneP (t.extract a.toNat b.toNat)).2)) := by
  simp only [vinculumref07_Get.l0]
  rw [if_pos hi, hw, hp]
  simp only [Option.bind_some]
  rw [hp1]
  simp only [Option.bind_some]
  by_cases h1 : b < a
  · rw [if_pos h1, if_pos h1]
  rw [if_neg h1, if_neg h1]
  by_cases h2 : (t.size : Int) < b
  · rw [if_pos h2, if_pos h2]
  have c1 : a ≤ b := by omega
  have c2 : b ≤ (t.size : Int) := by omega
  rw [if_neg h2, if_neg h2, if_pos ha, if_pos c1, if_pos c2, one_ref _ k hk]
  simp only [Option.bind_some]
  rw [one_parts] at ih ⊢
  simp only at ih ⊢
  by_cases h3 : (oneT (t.extract a.toNat b.toNat)).2.2.2.2.2 = 0
  · rw [if_pos h3, if_pos hx, if_pos h3, ih h3]
  · rw [if_neg h3, if_neg h3]
theorem get_loop (s t : ByteArray) (g : Nat) (far : Bool) (hg : g ≤ 65535) (hs : widN far * (g + 1) ≤ s.size) (L : List Int) (hlen : L.length = g + 1) (hget : ∀ i (h : i < L.length), L[i] = plc s far i) (d : Nat) : ∀ k i xs, g - i = d → i ≤ g → d + 30 < k → xs.length = i →
    vinculumref07_Get.l0 k s t (g : Int) far xs (i : Int) = some (goesOn t xs (L.drop i)) := by
  induction d with
  | zero =>
    intro k i xs hd hi hk hx
    obtain ⟨k, rfl⟩ : ∃ n, k = n + 1 := ⟨k - 1, by omega⟩
    have : i = g := by omega
    subst this
    simp only [vinculumref07_Get.l0]
    have hdr : L.drop i = [L[i]'(by omega)] := by rw [List.drop_eq_getElem_cons (by omega), List.drop_eq_nil_of_le (by omega)]
    rw [if_neg (by omega), hdr]
    simp [getsN, goesOn]
  | succ d ih =>
    intro k i xs hd hi hk hx
    obtain ⟨k, rfl⟩ : ∃ n, k = n + 1 := ⟨k - 1, by omega⟩
    have hig : i < g := by omega
    have a1 : g - (i + 1) = d := by omega
    have a2 : d + 30 < k := by omega
    have a3 : 20 ≤ k := by omega
    have a4 : i ≤ 65536 := by omega
    have a5 : i + 1 ≤ 65536 := by omega
    have a6 : (i : Int) < (g : Int) := by omega
    have a7 : xs.length < 3518437208883 := by omega
    have a8 : i < L.length := by omega
    have a9 : i + 1 < L.length := by omega
    have hw : wrap64 ((i : Int) + 1) = ((i + 1 : Nat) : Int) := by unfold wrap64; omega
    have hm : widN far * (i + 1) ≤ s.size := Nat.le_trans (Nat.mul_le_mul_left (widN far) (Nat.succ_le_succ hi)) hs
    have hm2 : widN far * (i + 1 + 1) ≤ s.size := Nat.le_trans (Nat.mul_le_mul_left (widN far) (Nat.succ_le_succ hig)) hs
    have hdr : L.drop i = plc s far i :: plc s far (i + 1) :: L.drop (i + 2) := by
      rw [List.drop_eq_getElem_cons a8, List.drop_eq_getElem_cons a9, hget, hget]
    have hdr1 : L.drop (i + 1) = plc s far (i + 1) :: L.drop (i + 2) := by
      rw [List.drop_eq_getElem_cons a9, hget]
    have ih' := ih k (i + 1) (xs ++ [(oneP (t.extract (plc s far i).toNat (plc s far (i + 1)).toNat)).1]) a1 hig a2 (by rw [List.length_append, hx]; rfl)
    have hst := ref_step s t (g : Int) far xs (i : Int) ((i + 1 : Nat) : Int) (plc s far i) (plc s far (i + 1)) k _ a6 hw (place_ref s i far a4 hm k a3) (place_ref s (i + 1) far a5 hm2 k a3) (plc_range s far i).1 a7 a3 (fun _ => ih')
    rw [hst, hdr, goes_step, hdr1]
theorem get_ref (s t : ByteArray) (g : Int) (far : Bool) (k : Nat) (hk : 65600 ≤ k) : vinculumref07_Get.f k s t g far = glyf_Get.f s t g far := by
  obtain ⟨k, rfl⟩ : ∃ n, k = n + 2 := ⟨k - 2, by omega⟩
  have ht : vinculumref07_Get.j0 (k + 2) s t g far true = some ([], 1) := by simp only [vinculumref07_Get.j0]; rw [if_pos trivial]
  unfold vinculumref07_Get.f glyf_Get.f
  by_cases h1 : g < 1
  · rw [if_pos h1, if_pos (.inl h1), ht]
  rw [if_neg h1]
  by_cases h2 : 65535 < g
  · rw [if_pos (.inr h2), show decide (g > 65535) = true from decide_eq_true h2, ht]
  rw [if_neg (by omega), show decide (g > 65535) = false from decide_eq_false h2]
  obtain ⟨g, rfl⟩ := Int.eq_ofNat_of_zero_le (show 0 ≤ g by omega)
  have hj : ∀ (z : Int), z = (widN far : Int) → vinculumref07_Get.j1 (k + 1) s t (g : Int) far z = some (getX s t g far) := fun z hz => by
    have hz4 : (widN far : Int) = 4 ∨ (widN far : Int) = 2 := by cases far <;> simp [widN]
    have w1 : wrap64 ((g : Int) + 1) = ((g + 1 : Nat) : Int) := by unfold wrap64; omega
    have w2 : wrap64 (z * ((g + 1 : Nat) : Int)) = ((widN far * (g + 1) : Nat) : Int) := by
      rw [hz, Int.natCast_mul]
      rcases hz4 with h | h <;> rw [h] <;> unfold wrap64 <;> omega
    simp only [vinculumref07_Get.j1]
    rw [w1, w2]
    unfold getX
    rw [places_eq]
    by_cases hc : widN far * (g + 1) ≤ s.size
    · have hl := get_loop s t g far (by omega) hc ((List.range (g + 1)).map (plc s far)) (by simp) (fun i h => by simp) g k 0 [] (by omega) (by omega) (by omega) rfl
      rw [if_neg (by omega), if_pos hc, if_neg (fun h => h rfl)]
      refine Eq.trans hl ?_
      unfold goesOn
      rw [List.drop_zero, List.nil_append]
      by_cases h4 : (getsN t ((List.range (g + 1)).map (plc s far))).2 = 0
      · rw [if_pos h4, ← h4]
      · rw [if_neg h4]
        have := getsN_nil t _ h4
        rw [← this]
    · rw [if_pos (by omega), if_neg hc, if_pos (by decide)]
  simp only [vinculumref07_Get.j0]
  rw [if_neg Bool.false_ne_true, Int.toNat_natCast]
  cases far with
  | true => rw [if_pos rfl]; exact hj 4 rfl
  | false => rw [if_neg Bool.false_ne_true]; exact hj 2 rfl
end Go.Proofs.Ytjmliafplgjkhaa.P
end
section
namespace Go.Proofs.Ytjmliafplgjkhaa.P
open Go.RowKit Go.Proofs.YtjmliafplgjkhaaW.PrintWords Go.Proofs.YtjmliafplgjkhaaW.PrintLast Go.Proofs.YtjmliafplgjkhaaW.PrintMore
set_option linter.unusedSimpArgs false
set_option linter.unusedVariables false
theorem fit_range {v : Int} (h : fitsN v (-2) = true) : -65536 ≤ v ∧ v < 65536 := by
  unfold fitsN at h
  rw [if_pos (by decide)] at h
  have e : (256 : Int) ^ (-2 : Int).natAbs = 65536 := by decide
  rw [e] at h
  have := of_decide_eq_true h
  omega
theorem bytes_fit {v : Int} (h : fitsN v (-2) = true) (k : Nat) (hk : 16 ≤ k) : vinculumref03_Bytes.f k v 2 = some ⟨(bytesN v 2).toArray⟩ := by
  have hr := fit_range h
  have e : (256 : Int) ^ 2 = 65536 := by decide
  exact bytesN_told v 2 (by simp) (by rw [e]; exact hr.1) (by rw [e]; exact hr.2) k hk
theorem any_fits {x : S30} (h : isN x = true) (h0 : x.f0 = true) : fitsN x.f1 (-2) = true ∧ fitsN x.f2 (-2) = true ∧ fitsN x.f3 (-2) = true ∧ fitsN x.f4 (-2) = true := by
  have := (isN_any h h0).1
  unfold fit4 at this
  simpa using this
theorem many_snoc (l : List S30) (i : Nat) (h : i < l.length) : manyE (l.take (i + 1)) = manyE (l.take i) + if l[i].f0 = true then 1 else 0 := by
  have ht : l.take (i + 1) = l.take i ++ [l[i]] := by rw [List.take_add_one, List.getElem?_eq_getElem h]; rfl
  unfold manyE
  rw [ht, List.filter_append, List.length_append]
  rw [List.filter_cons, List.filter_nil]
  cases l[i].f0 <;> rfl
theorem rows_snoc (l : List S30) (i : Nat) (h : i < l.length) : (l.take (i + 1)).flatMap rowE = (l.take i).flatMap rowE ++ rowE l[i] := by
  have ht : l.take (i + 1) = l.take i ++ [l[i]] := by rw [List.take_add_one, List.getElem?_eq_getElem h]; rfl
  rw [ht, List.flatMap_append]
  simp
theorem is_at (l : List S30) (i : Nat) (h : i < l.length) (k : Nat) (hk : 20 ≤ k) : vinculumref07_Is.f k ((rd_T30 l (i : Int)).f0) ((rd_T30 l (i : Int)).f1) ((rd_T30 l (i : Int)).f2) ((rd_T30 l (i : Int)).f3) ((rd_T30 l (i : Int)).f4) = some (isN l[i]) := by
  rw [rd_get l i h]
  exact is_ref _ k hk
theorem put_count (l : List S30) (far : Bool) (hl : l.length ≤ 65535) (hi : ∀ x ∈ l, isN x = true) (d : Nat) : ∀ k i, l.length - i = d → i ≤ l.length →
    vinculumref07_Put.l0 (k + 25 + d) l far (manyE (l.take i) : Int) (i : Int) = vinculumref07_Put.l0 (k + 25) l far (manyE l : Int) (l.length : Int) := by
  induction d with
  | zero =>
    intro k i hd hle
    have : i = l.length := by omega
    subst this
    rw [List.take_length]
  | succ d ih =>
    intro k i hd hle
    have hlt : i < l.length := by omega
    have hw : wrap64 ((i : Int) + 1) = ((i + 1 : Nat) : Int) := by unfold wrap64; omega
    have hm := many_le (l.take i)
    have hm2 : (l.take i).length ≤ i := List.length_take_le _ _
    have hw2 : wrap64 ((manyE (l.take i) : Int) + 1) = ((manyE (l.take i) + 1 : Nat) : Int) := by unfold wrap64; omega
    have hs := many_snoc l i hlt
    rw [← ih k (i + 1) (by omega) hlt, show k + 25 + (d + 1) = (k + 25 + d) + 1 from by omega]
    conv => lhs; simp only [vinculumref07_Put.l0]
    rw [if_pos (by omega), if_pos (by omega), is_at l i hlt _ (by omega), hi _ (List.getElem_mem hlt)]
    simp only [Option.bind_some]
    rw [if_pos trivial, rd_get l i hlt, hw]
    cases hf : l[i].f0 with
    | true =>
      rw [if_pos rfl, hw2, hs, hf, if_pos rfl]
    | false =>
      rw [if_neg Bool.false_ne_true, hs, hf, if_neg Bool.false_ne_true]
      rfl
theorem put_wrong (l : List S30) (far : Bool) (hl : l.length ≤ 65535) (d : Nat) : ∀ k i (m : Int), l.length - i = d → i ≤ l.length → 25 + d ≤ k → (l.drop i).any (fun x => !isN x) = true →
    vinculumref07_Put.l0 k l far m (i : Int) = some (⟨#[]⟩, ⟨#[]⟩, 1) := by
  induction d with
  | zero =>
    intro k i m hd hle hk ha
    rw [List.drop_eq_nil_of_le (by omega)] at ha
    exact absurd ha (by decide)
  | succ d ih =>
    intro k i m hd hle hk ha
    obtain ⟨k, rfl⟩ : ∃ n, k = n + 1 := ⟨k - 1, by omega⟩
    have hlt : i < l.length := by omega
    have hw : wrap64 ((i : Int) + 1) = ((i + 1 : Nat) : Int) := by unfold wrap64; omega
    rw [List.drop_eq_getElem_cons hlt, List.any_cons] at ha
    simp only [vinculumref07_Put.l0]
    rw [if_pos (by omega), if_pos (by omega), is_at l i hlt _ (by omega)]
    simp only [Option.bind_some]
    cases hx : isN l[i] with
    | false => rw [if_neg Bool.false_ne_true]
    | true =>
      rw [hx] at ha
      have ha2 : (l.drop (i + 1)).any (fun x => !isN x) = true := by simpa using ha
      rw [if_pos rfl, hw, ih k (i + 1) _ (by omega) hlt (by omega) ha2, ih k (i + 1) _ (by omega) hlt (by omega) ha2]
      split <;> rfl
def locaI (far : Bool) (l : List S30) (i : Nat) : List UInt8 := ((0 :: atsN (byOf far) 0 l).take i).flatMap (fun v => bytesN v (widN far))
theorem loca_snoc (far : Bool) (l : List S30) (i : Nat) (h : i ≤ l.length) : locaI far l (i + 1) = locaI far l i ++ bytesN ((totN (l.take i) / byOf far : Nat) : Int) (widN far) := by
  have hlen := offs_length (byOf far) l
  have hi : i < (0 :: atsN (byOf far) 0 l).length := by omega
  have hg : (0 :: atsN (byOf far) 0 l)[i] = ((totN (l.take i) / byOf far : Nat) : Int) := by
    have := offs_told (byOf far) l
    simp only [this]
    simp
  unfold locaI
  rw [List.take_add_one, List.getElem?_eq_getElem hi, hg, List.flatMap_append]
  simp
theorem loca_all (far : Bool) (l : List S30) : locaI far l (l.length + 1) = locaN far l := by
  unfold locaI locaN
  rw [List.take_of_length_le (by rw [offs_length]; exact Nat.le_refl _)]
theorem locaI_length (far : Bool) (l : List S30) (i : Nat) : (locaI far l i).length ≤ 4 * (l.length + 1) := by
  have h : ∀ L : List Int, (L.flatMap (fun v => bytesN v (widN far))).length ≤ 4 * L.length := fun L => by
    induction L with
    | nil => exact Nat.le_refl _
    | cons v L ih =>
      rw [List.flatMap_cons, List.length_append, bytesN_length, List.length_cons]
      have : widN far ≤ 4 := by cases far <;> decide
      omega
  have h1 := h ((0 :: atsN (byOf far) 0 l).take i)
  have h2 : ((0 :: atsN (byOf far) 0 l).take i).length ≤ l.length + 1 := by
    rw [← offs_length (byOf far) l]; exact List.length_take_le' _ _
  unfold locaI
  omega
theorem put_row (l : List S30) (far : Bool) (hi : ∀ x ∈ l, isN x = true) (A : ByteArray) (G : List UInt8) (hG : G.length ≤ 800000) (i : Nat) (hlt : i < l.length) (hil : i ≤ 65535) (k : Nat) (hk : 20 ≤ k) :
    vinculumref07_Put.j4 (k + 2) l far A ⟨G.toArray⟩ (i : Int) = vinculumref07_Put.l1 k l far A ⟨(G ++ rowE l[i]).toArray⟩ ((i + 1 : Nat) : Int) := by
  have hw : wrap64 ((i : Int) + 1) = ((i + 1 : Nat) : Int) := by unfold wrap64; omega
  have hx := hi _ (List.getElem_mem hlt)
  simp only [vinculumref07_Put.j4]
  rw [if_pos (by omega), if_pos (by omega), rd_get l i hlt]
  simp only [vinculumref07_Put.j5]
  rw [rd_get l i hlt, hw]
  cases hf : l[i].f0 with
  | false => rw [if_neg Bool.false_ne_true, rowE_none hf, List.append_nil]
  | true =>
    obtain ⟨f1, f2, f3, f4⟩ := any_fits hx hf
    have e0 : (⟨#[0, 0]⟩ : ByteArray) = ⟨([0, 0] : List UInt8).toArray⟩ := rfl
    have eR : G ++ rowE l[i] = ((((((G ++ [0, 0]) ++ bytesN l[i].f1 2) ++ bytesN l[i].f2 2) ++ bytesN l[i].f3 2) ++ bytesN l[i].f4 2) ++ [0, 0]) := by
      rw [rowE_any hx hf]
      unfold rawE
      simp
    rw [if_pos rfl, if_pos (by omega), if_pos (by omega), bytes_fit f1 _ (by omega), bytes_fit f2 _ (by omega), bytes_fit f3 _ (by omega), bytes_fit f4 _ (by omega), e0]
    simp only [Option.bind_some, ba_join, ba_size, List.length_append, bytesN_length]
    rw [if_pos (by omega), if_pos (by simp; omega), if_pos (by simp; omega), if_pos (by simp; omega), if_pos (by simp; omega), if_pos (by simp; omega), eR]
theorem put_rows (l : List S30) (far : Bool) (hl : l.length ≤ 65535) (hi : ∀ x ∈ l, isN x = true) (hn : far = false → totN l ≤ 131064) (d : Nat) : ∀ k i, l.length - i = d → i ≤ l.length → 3 * d + 30 ≤ k →
    vinculumref07_Put.l1 k l far ⟨(locaI far l i).toArray⟩ ⟨((l.take i).flatMap rowE).toArray⟩ (i : Int) = some (⟨(locaN far l).toArray⟩, ⟨(l.flatMap rowE).toArray⟩, 0) := by
  have ht := tot_bound l hl hi
  have hone : ∀ k i, i ≤ l.length → 28 ≤ k → vinculumref07_Put.l1 (k + 1) l far ⟨(locaI far l i).toArray⟩ ⟨((l.take i).flatMap rowE).toArray⟩ (i : Int) = vinculumref07_Put.j4 k l far ⟨(locaI far l (i + 1)).toArray⟩ ⟨((l.take i).flatMap rowE).toArray⟩ (i : Int) := by
    intro k i hle hk
    have h1 := tot_take l i
    have hsz : ((l.take i).flatMap rowE).length = totN (l.take i) := rfl
    have hll := locaI_length far l i
    have hwid : widN far ≤ 4 := by cases far <;> decide
    rw [loca_snoc far l i hle]
    simp only [vinculumref07_Put.l1]
    rw [if_pos (by omega)]
    cases far with
    | true =>
      have e4 : (256 : Int) ^ 4 = 4294967296 := by decide
      have hb : vinculumref03_Bytes.f k ((⟨((l.take i).flatMap rowE).toArray⟩ : ByteArray).size : Int) 4 = some ⟨(bytesN ((totN (l.take i) / byOf true : Nat) : Int) (widN true)).toArray⟩ := by
        have e1 : byOf true = 1 := rfl
        have e2 : widN true = 4 := rfl
        rw [ba_size, hsz, e1, e2, Nat.div_one]
        exact bytesN_told _ 4 (by simp) (by rw [e4]; omega) (by rw [e4]; omega) k (by omega)
      rw [if_pos rfl, hb]
      simp only [Option.bind_some, ba_join, ba_size, bytesN_length]
      rw [if_pos (by omega)]
    | false =>
      have h2 := hn rfl
      have e4 : (256 : Int) ^ 2 = 65536 := by decide
      have hb : vinculumref03_Bytes.f k (wrap64 (((⟨((l.take i).flatMap rowE).toArray⟩ : ByteArray).size : Int) / 2)) 2 = some ⟨(bytesN ((totN (l.take i) / byOf false : Nat) : Int) (widN false)).toArray⟩ := by
        have e1 : byOf false = 2 := rfl
        have e2 : widN false = 2 := rfl
        have ew : wrap64 ((totN (l.take i) : Int) / 2) = ((totN (l.take i) / 2 : Nat) : Int) := by unfold wrap64; omega
        rw [ba_size, hsz, e1, e2, ew]
        exact bytesN_told _ 2 (by simp) (by rw [e4]; omega) (by rw [e4]; omega) k (by omega)
      rw [if_neg Bool.false_ne_true, hb]
      simp only [Option.bind_some, ba_join, ba_size, bytesN_length]
      rw [if_pos (by omega)]
  induction d with
  | zero =>
    intro k i hd hle hk
    obtain ⟨k, rfl⟩ : ∃ n, k = n + 1 + 2 + 1 := ⟨k - 4, by omega⟩
    have : i = l.length := by omega
    subst this
    have hw : wrap64 ((l.length : Int) + 1) = ((l.length + 1 : Nat) : Int) := by unfold wrap64; omega
    rw [hone (k + 1 + 2) l.length hle (by omega), loca_all, List.take_length]
    simp only [vinculumref07_Put.j4]
    rw [if_neg (by omega)]
    simp only [vinculumref07_Put.j5]
    rw [if_neg Bool.false_ne_true, hw]
    simp only [vinculumref07_Put.l1]
    rw [if_neg (by omega)]
  | succ d ih =>
    intro k i hd hle hk
    obtain ⟨k, rfl⟩ : ∃ n, k = n + 2 + 1 := ⟨k - 3, by omega⟩
    have hlt : i < l.length := by omega
    have h1 := tot_take l i
    have hsz : ((l.take i).flatMap rowE).length = totN (l.take i) := rfl
    rw [hone (k + 2) i hle (by omega), put_row l far hi _ _ (by omega) i hlt (by omega) k (by omega), ← rows_snoc l i hlt]
    exact ih k (i + 1) (by omega) hlt (by omega)
theorem put_ref (l : List S30) (far : Bool) (hl : l.length ≤ 300) (K : Nat) (hK : 1400 ≤ K) : vinculumref07_Put.f K l far = some (putE l far) := by
  have hsome : ∀ k, vinculumref07_Put.j0 (k + 1) l far true = some (⟨#[]⟩, ⟨#[]⟩, 1) := fun k => by simp only [vinculumref07_Put.j0]; rw [if_pos trivial]
  obtain ⟨K, rfl⟩ : ∃ n, K = n + 1 := ⟨K - 1, by omega⟩
  unfold vinculumref07_Put.f
  by_cases h0 : l.length = 0
  · have e : l = [] := List.length_eq_zero_iff.1 h0
    rw [if_pos (by omega), hsome]
    unfold putE
    rw [if_pos (.inl e)]
  have hne : l ≠ [] := fun e => h0 (by rw [e]; rfl)
  rw [if_neg (by omega), show decide ((l.length : Int) > 65535) = false from decide_eq_false (by omega)]
  simp only [vinculumref07_Put.j0]
  rw [if_neg Bool.false_ne_true]
  cases ha : l.any (fun x => !isN x) with
  | true =>
    have h1 := put_wrong l far (by omega) l.length K 0 0 rfl (by omega) (by omega) (by simpa using ha)
    refine Eq.trans h1 ?_
    unfold putE
    rw [if_pos (.inr (.inr ha))]
  | false =>
    have hi : ∀ x ∈ l, isN x = true := by
      intro x hx
      have := List.any_eq_false.1 ha x hx
      simpa using this
    have hc := put_count l far (by omega) hi l.length (K - 25 - l.length) 0 rfl (by omega)
    have e1 : K - 25 - l.length + 25 + l.length = K := by omega
    have e2 : ((manyE (l.take 0) : Nat) : Int) = 0 := by simp [manyE]
    rw [e1, e2] at hc
    refine Eq.trans hc ?_
    obtain ⟨m, hm⟩ : ∃ m, K - 25 - l.length + 25 = m + 1 + 1 := ⟨K - 25 - l.length + 25 - 2, by omega⟩
    rw [hm, put_eq l far ⟨by omega, by omega⟩ hi]
    have htm := tot_many l hi
    simp only [vinculumref07_Put.l0]
    rw [if_neg (by omega)]
    have hfin : (far = false → totN l ≤ 131064) → vinculumref07_Put.j2 (m + 1) l far false = some (⟨(locaN far l).toArray⟩, ⟨(l.flatMap rowE).toArray⟩, 0) := fun hn => by
      simp only [vinculumref07_Put.j2]
      rw [if_neg Bool.false_ne_true]
      exact put_rows l far (by omega) hi hn l.length m 0 rfl (by omega) (by omega)
    have hm1 := many_le l
    cases far with
    | true =>
      rw [if_pos rfl, if_neg (by rintro ⟨h, _⟩; exact absurd h (by decide))]
      exact hfin (fun h => absurd h (by decide))
    | false =>
      rw [if_neg Bool.false_ne_true, show decide ((manyE l : Int) > 10922) = false from decide_eq_false (by omega), if_neg (by rintro ⟨_, h⟩; omega)]
      exact hfin (fun _ => by omega)
end Go.Proofs.Ytjmliafplgjkhaa.P
end
section
namespace Go.Proofs.Ytjmliafplgjkhaa.Pure
open Go.RowKit Go.Proofs.Ytjmliafplgjkhaa.P Go.Proofs.YtjmliafplgjkhaaW.PrintWords Go.Proofs.YtjmliafplgjkhaaW.PrintLast
set_option linter.unusedSimpArgs false
set_option linter.unusedVariables false
theorem get_some (s t : ByteArray) (g : Int) (far : Bool) : ∃ r, glyf_Get.f s t g far = some r ∧ r.1.length ≤ 65535 := by
  unfold glyf_Get.f
  by_cases hg : g < 1 ∨ 65535 < g
  · exact ⟨_, by rw [if_pos hg], by simp⟩
  · obtain ⟨g, rfl⟩ := Int.eq_ofNat_of_zero_le (show 0 ≤ g by omega)
    refine ⟨_, by rw [if_neg hg], ?_⟩
    rw [Int.toNat_natCast]
    by_cases h0 : (getX s t g far).2 = 0
    · have := get_told (s := s) (t := t) (g := g) (far := far) (l := (getX s t g far).1) (by rw [← h0])
      omega
    · rw [get_err h0]; exact Nat.zero_le _
theorem does_end (l xs : List S30) (e : Int) (p q : ByteArray) (r : Int) (hl : l.length ≤ 300) (hx : xs.length ≤ 65535) (k : Nat) (hk : 65600 ≤ k) : vinculumlaw07_GlyfDoes.l0 k l l xs e xs e p q r p q r (l.length : Int) = some true := by
  obtain ⟨k, rfl⟩ : ∃ n, k = n + 1 := ⟨k - 1, by omega⟩
  simp only [vinculumlaw07_GlyfDoes.l0]
  rw [if_neg (by omega), drawn_told k (by omega)]
  simp only [Option.bind_some]
  rw [if_pos trivial, same_self' xs (by omega) k (by omega)]
  simp only [Option.bind_some]
  rw [if_pos trivial, if_pos trivial, if_pos trivial, if_pos trivial, if_pos trivial, same_self' l (by omega) k (by omega)]
  rfl
theorem does_loop (l xs : List S30) (e : Int) (p q : ByteArray) (r : Int) (hl : l.length ≤ 300) (hx : xs.length ≤ 65535) (d : Nat) : ∀ k i, l.length - i = d → i ≤ l.length → 65600 + d ≤ k → vinculumlaw07_GlyfDoes.l0 k l l xs e xs e p q r p q r (i : Int) = some true := by
  induction d with
  | zero =>
    intro k i hd hle hk
    have : i = l.length := by omega
    subst this
    exact does_end l xs e p q r hl hx k (by omega)
  | succ d ih =>
    intro k i hd hle hk
    obtain ⟨k, rfl⟩ : ∃ n, k = n + 1 := ⟨k - 1, by omega⟩
    have hlt : i < l.length := by omega
    have hw : wrap64 ((i : Int) + 1) = ((i + 1 : Nat) : Int) := by unfold wrap64; omega
    simp only [vinculumlaw07_GlyfDoes.l0]
    rw [if_pos (by omega), if_pos (by omega), is_at l i hlt k (by omega), rd_get l i hlt, is_some]
    simp only [Option.bind_some]
    rw [if_pos (by omega), if_neg (by simp), hw]
    exact ih k (i + 1) (by omega) (by omega) (by omega)
theorem does_told (s t : ByteArray) (g : Int) (far : Bool) (l : List S30) (hs : s.size ≤ 140737488351232) (ht : t.size ≤ 140737488351232) (K : Nat) (hK : 66000 ≤ K) : vinculumlaw07_GlyfDoes.f (K + 1) s t g far l = some true := by
  have hj : ∀ b, (b = false → ¬ (l.length : Int) > 300) → vinculumlaw07_GlyfDoes.j0 (K + 1) s t g far l b = some true := fun b hb => by
    simp only [vinculumlaw07_GlyfDoes.j0]
    cases b with
    | true => rw [if_pos rfl]
    | false =>
      have hl := hb rfl
      obtain ⟨r, hg, hr⟩ := get_some s t g far
      rw [if_neg (by decide), if_pos (by simp; omega)]
      simp only [Option.bind_some, List.nil_append]
      rw [get_ref s t g far K (by omega), hg]
      simp only [Option.bind_some]
      rw [put_some l far (by omega), put_ref l far (by omega) K (by omega)]
      simp only [Option.bind_some]
      exact does_loop l r.1 r.2 _ _ _ (by omega) hr l.length K 0 (by omega) (by omega) (by omega)
  have hw : wrap64 ((s.size : Int) + (t.size : Int)) = (s.size : Int) + (t.size : Int) := by unfold wrap64; omega
  unfold vinculumlaw07_GlyfDoes.f
  rw [hw]
  by_cases h1 : (s.size : Int) + (t.size : Int) > 4000
  · rw [if_pos h1]
    exact hj true (fun h => absurd h (by decide))
  · rw [if_neg h1]
    exact hj _ (fun h => of_decide_eq_false h)
end Go.Proofs.Ytjmliafplgjkhaa.Pure
end
