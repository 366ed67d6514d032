/- Plain facts of hmtx's Put: the bytes of metrics, how many have a width of their own, and that Get undoes Put. -/
import Derived.Test.YtjbhnohomhnhjaaMHmtx
import Derived.Test.YtjbhnohomhnhjaaPRRef06
namespace Go.Proofs.Ytjbhnohomhnhjaa.P
open Go.RowKit Go.Proofs.YtjbhnohomhnhjaaW.PrintWords Go.Proofs.YtjbhnohomhnhjaaW.PrintLast Go.Proofs.YtjbhnohomhnhjaaW.PrintMore
set_option linter.unusedSimpArgs false
set_option linter.unusedVariables false
/-! ### How many have a width of their own -/
def adv (l : List S34) (i : Nat) : Int := (rd_T34 l (i : Int)).f0
theorem rd_get (l : List S34) (i : Nat) (h : i < l.length) : rd_T34 l (i : Int) = l[i] := by
  unfold rd_T34
  rw [Int.toNat_natCast, List.getD_eq_getElem?_getD, List.getElem?_eq_getElem h]; rfl
theorem leastN_spec (l : List S34) (h : 0 < l.length) : (∀ i, leastN l - 1 ≤ i → i < l.length → adv l i = adv l (l.length - 1)) ∧ (2 ≤ leastN l → adv l (leastN l - 2) ≠ adv l (l.length - 1)) := by
  have hb : ∀ j, (backAt l j).f0 = adv l (l.length - 1 - j) := fun j => rfl
  have h0 : (backAt l 0).f0 = adv l (l.length - 1) := rfl
  unfold leastN
  cases hf : (List.finRange l.length).find? (fun x => decide ((backAt l x.1).f0 ≠ (backAt l 0).f0)) with
  | none =>
    rw [List.find?_eq_none] at hf
    refine ⟨fun i _ hi => ?_, fun hh => absurd hh (show ¬ 2 ≤ 1 by decide)⟩
    have := hf ⟨l.length - 1 - i, by omega⟩ (List.mem_finRange _)
    simp only [decide_eq_true_eq, ne_eq, Decidable.not_not] at this
    rw [hb, h0] at this
    rw [← this]; congr 1; omega
  | some x =>
    obtain ⟨hp, i, hi, he, hall⟩ := List.find?_eq_some_iff_getElem.1 hf
    have hx := x.2
    have hix : i = x.1 := by rw [← he]; simp
    subst hix
    have hne := of_decide_eq_true hp
    rw [hb, h0] at hne
    refine ⟨fun j h1 h2 => ?_, fun _ => ?_⟩
    · simp only at h1
      have := hall (l.length - 1 - j) (by omega)
      simp only [List.getElem_finRange, decide_eq_true_eq, ne_eq, Decidable.not_not, Bool.not_eq_true', decide_eq_false_iff_not] at this
      rw [h0] at this
      have e : (backAt l (l.length - 1 - j)).f0 = adv l j := by rw [hb]; congr 1; omega
      rw [← e]; simpa using this
    · simp only
      have e : l.length - 1 - x.1 + 2 - 2 = l.length - 1 - x.1 := by omega
      rw [e]; exact hne
theorem leastN_least (l : List S34) (h : 0 < l.length) (m : Nat) (hm : 1 ≤ m) (ha : ∀ i, m - 1 ≤ i → i < l.length → adv l i = adv l (l.length - 1)) : leastN l ≤ m := by
  rcases Nat.lt_or_ge m (leastN l) with hlt | hge
  · exfalso
    exact (leastN_spec l h).2 (by omega) (ha (leastN l - 2) (by omega) (by have := (leastN_le l h).2; omega))
  · exact hge
/-! ### Bytes of metrics -/
def A1 (l : List S34) : List Int := l.flatMap (fun x => [x.f0, x.f1])
def A2 (l : List S34) : List Int := l.map (fun x => x.f1)
def B1 (l : List S34) : List UInt8 := l.flatMap (fun x => bytesN x.f0 2 ++ bytesN x.f1 2)
def B2 (l : List S34) : List UInt8 := l.flatMap (fun x => bytesN x.f1 2)
def ok1 (l : List S34) : Bool := l.all (fun x => fitsN x.f0 2 && fitsN x.f1 (-2))
def ok2 (l : List S34) : Bool := l.all (fun x => fitsN x.f1 (-2))
theorem B1_length : ∀ l : List S34, (B1 l).length = 4 * l.length
  | [] => rfl
  | x :: l => by
    have := B1_length l
    unfold B1 at *
    rw [List.flatMap_cons, List.length_append, List.length_append, this, bytesN_length, bytesN_length, List.length_cons]; omega
theorem B2_length : ∀ l : List S34, (B2 l).length = 2 * l.length
  | [] => rfl
  | x :: l => by
    have := B2_length l
    unfold B2 at *
    rw [List.flatMap_cons, List.length_append, this, bytesN_length, List.length_cons]; omega
theorem puts_pairs (sz q : List Int) : ∀ l1 : List S34, puts (repN [2, -2] l1.length ++ sz) (A1 l1 ++ q) = if ok1 l1 = true then (puts sz q).map (B1 l1 ++ ·) else none
  | [] => by simp [repN, A1, ok1, B1]
  | x :: l1 => by
    have ih := puts_pairs sz q l1
    have e1 : repN [2, -2] (x :: l1).length ++ sz = 2 :: -2 :: (repN [2, -2] l1.length ++ sz) := by simp [repN]
    have e2 : A1 (x :: l1) ++ q = x.f0 :: x.f1 :: (A1 l1 ++ q) := by simp [A1]
    have e3 : ok1 (x :: l1) = (fitsN x.f0 2 && fitsN x.f1 (-2) && ok1 l1) := by simp [ok1]
    have e4 : B1 (x :: l1) = bytesN x.f0 2 ++ (bytesN x.f1 2 ++ B1 l1) := by simp [B1]
    rw [e1, e2, e3, e4]
    simp only [puts]
    rw [ih]
    have n1 : (2 : Int).natAbs = 2 := rfl
    have n2 : (-2 : Int).natAbs = 2 := rfl
    rw [n1, n2]
    cases h1 : fitsN x.f0 2 with
    | false => simp
    | true =>
      cases h2 : fitsN x.f1 (-2) with
      | false => simp
      | true =>
        cases h3 : ok1 l1 with
        | false => simp
        | true =>
          simp [Option.map_map, Function.comp_def]
theorem puts_sides : ∀ l2 : List S34, puts (repN [-2] l2.length) (A2 l2) = if ok2 l2 = true then some (B2 l2) else none
  | [] => by simp [repN, A2, ok2, B2, puts]
  | x :: l2 => by
    have ih := puts_sides l2
    have e1 : repN [-2] (x :: l2).length = -2 :: repN [-2] l2.length := by simp [repN]
    have e2 : A2 (x :: l2) = x.f1 :: A2 l2 := by simp [A2]
    have e3 : ok2 (x :: l2) = (fitsN x.f1 (-2) && ok2 l2) := by simp [ok2]
    have e4 : B2 (x :: l2) = bytesN x.f1 2 ++ B2 l2 := by simp [B2]
    rw [e1, e2, e3, e4]
    simp only [puts]
    rw [ih]
    have n2 : (-2 : Int).natAbs = 2 := rfl
    rw [n2]
    cases h2 : fitsN x.f1 (-2) with
    | false => simp
    | true =>
      cases h3 : ok2 l2 with
      | false => simp
      | true => simp
theorem rowP_told (l : List S34) (n : Nat) : ∀ i, i ≤ l.length → rowP l n i = A1 (l.take (min i n)) ++ A2 ((l.take i).drop n)
  | 0, _ => by simp [rowP, A1, A2]
  | i + 1, h => by
    have ih := rowP_told l n i (by omega)
    have hi : i < l.length := by omega
    have ht : l.take (i + 1) = l.take i ++ [l[i]] := by rw [List.take_add_one, List.getElem?_eq_getElem hi]; rfl
    rw [rowP, ih, rd_get l i hi]
    by_cases hn : i < n
    · rw [if_pos hn, show min i n = i by omega, show min (i + 1) n = i + 1 by omega]
      have d1 : (l.take i).drop n = [] := List.drop_eq_nil_of_le (by simp; omega)
      have d2 : (l.take (i + 1)).drop n = [] := List.drop_eq_nil_of_le (by simp; omega)
      rw [d1, d2, ht]
      unfold A1 A2
      rw [List.flatMap_append]
      simp only [List.flatMap_cons, List.flatMap_nil, List.map_nil, List.append_nil]
    · rw [if_neg hn, show min i n = n by omega, show min (i + 1) n = n by omega, ht, List.drop_append_of_le_length (by simp; omega)]
      simp [A2]
theorem rowP_whole (l : List S34) (n : Nat) (hn : n ≤ l.length) : rowP l n l.length = A1 (l.take n) ++ A2 (l.drop n) := by
  rw [rowP_told l n l.length (Nat.le_refl _), show min l.length n = n by omega, List.take_length]
theorem areSizes_append (a b : List Int) (h1 : areSizes a = true) (h2 : areSizes b = true) : areSizes (a ++ b) = true := by
  unfold areSizes at *
  rw [List.all_append, h1, h2]; rfl
def bytesM (l : List S34) : List UInt8 := B1 (l.take (leastN l)) ++ B2 (l.drop (leastN l))
theorem putN_told (l : List S34) (h : 0 < l.length) : putN (sizesP l) (rowP l (leastN l) l.length) = if (ok1 (l.take (leastN l)) && ok2 (l.drop (leastN l))) = true then (⟨(bytesM l).toArray⟩, 0) else (⟨#[]⟩, 2) := by
  have hn := (leastN_le l h).2
  rw [rowP_whole l _ hn]
  have hl1 : (l.take (leastN l)).length = leastN l := by simp; omega
  have hl2 : (l.drop (leastN l)).length = l.length - leastN l := by simp
  have hA1 : ∀ m : List S34, (A1 m).length = 2 * m.length := fun m => by
    induction m with
    | nil => rfl
    | cons x m ih =>
      unfold A1 at *
      rw [List.flatMap_cons, List.length_append, ih]; simp; omega
  unfold putN
  have hs : areSizes (sizesP l) = true := areSizes_append _ _ (areSizes_rep _ (by decide) _) (areSizes_rep _ (by decide) _)
  have hlen : (sizesP l).length = (A1 (l.take (leastN l)) ++ A2 (l.drop (leastN l))).length := by
    unfold sizesP
    rw [List.length_append, List.length_append, repN_length, repN_length, hA1, hl1]
    have : (A2 (l.drop (leastN l))).length = l.length - leastN l := by simp [A2]
    rw [this]
    show 2 * _ + 1 * _ = _
    omega
  rw [if_neg (by rintro (h | h)
                 · rw [hs] at h; exact absurd h (by decide)
                 · exact h hlen)]
  have hp := puts_pairs (repN [-2] (l.drop (leastN l)).length) (A2 (l.drop (leastN l))) (l.take (leastN l))
  rw [puts_sides, hl1, hl2] at hp
  unfold sizesP
  rw [hp]
  cases h1 : ok1 (l.take (leastN l)) with
  | false => simp
  | true =>
    cases h2 : ok2 (l.drop (leastN l)) with
    | false => simp
    | true => simp [bytesM]
theorem ok_parts (l : List S34) (n : Nat) (hw : wideP l = true) : (ok1 (l.take n) && ok2 (l.drop n)) = ok1 l := by
  have e : ok1 l = (ok1 (l.take n) && ok1 (l.drop n)) := by
    unfold ok1
    rw [← List.all_append, List.take_append_drop]
  have e2 : ok1 (l.drop n) = ok2 (l.drop n) := by
    unfold ok1 ok2
    unfold wideP at hw
    rw [List.all_eq_true] at hw
    apply Bool.eq_iff_iff.2
    simp only [List.all_eq_true, Bool.and_eq_true]
    constructor
    · intro h x hx; exact (h x hx).2
    · intro h x hx; exact ⟨hw x (List.mem_of_mem_drop hx), h x hx⟩
  rw [e, e2]
theorem ok_wide (l : List S34) (h : ok1 l = true) : wideP l = true := by
  unfold ok1 at h
  unfold wideP
  rw [List.all_eq_true] at h ⊢
  intro x hx
  have := h x hx
  rw [Bool.and_eq_true] at this
  exact this.1
theorem put_told (l : List S34) : hmtx_Put.f l = some (if l.length = 0 ∨ 65535 < l.length then (⟨#[]⟩, 0, 1) else if ok1 l = true then (⟨(bytesM l).toArray⟩, (leastN l : Int), 0) else (⟨#[]⟩, 0, 2)) := by
  unfold hmtx_Put.f
  by_cases hb : l.length = 0 ∨ 65535 < l.length
  · rw [if_pos hb, if_pos hb]
  · rw [if_neg hb, if_neg hb]
    cases hw : wideP l with
    | false =>
      rw [if_pos rfl, if_neg (fun h => by rw [ok_wide l h] at hw; exact absurd hw (by decide))]
    | true =>
      rw [if_neg (by decide)]
      unfold putM
      rw [putN_told l (by omega), ok_parts l _ hw]
      cases ho : ok1 l with
      | false => simp
      | true => simp
/-! ### Get undoes Put -/
theorem ba_size (L : List UInt8) : (⟨L.toArray⟩ : ByteArray).size = L.length := by simp [ByteArray.size]
theorem bt_list (L : List UInt8) (m : ByteArray) (j : Nat) (h : j < L.length) : bt ((⟨L.toArray⟩ : ByteArray) ++ m) (j : Int) = (L[j].toNat : Int) := by
  unfold bt
  have hs : ((⟨L.toArray⟩ : ByteArray)).size = L.length := by simp [ByteArray.size]
  have h1 : ((j : Nat) : Int).toNat < ((⟨L.toArray⟩ : ByteArray) ++ m).size := by rw [ByteArray.size_append, hs]; simp; omega
  rw [dif_pos h1]
  simp only [Int.toNat_natCast]
  rw [ByteArray.getElem_append_left (by rw [hs]; exact h)]
  simp [ByteArray.getElem_eq_getElem_data]
theorem u16_of (pre post : List UInt8) (v : Int) (m : ByteArray) (p : Nat) (hp : pre.length = p) : u16 ((⟨(pre ++ (bytesN v 2 ++ post)).toArray⟩ : ByteArray) ++ m) p = v % 65536 := by
  subst hp
  have hb : bytesN v 2 = [byteOf v 1, byteOf v 0] := rfl
  have g0 : ∀ h : pre.length < (pre ++ (bytesN v 2 ++ post)).length, (pre ++ (bytesN v 2 ++ post))[pre.length] = byteOf v 1 := fun h => by
    rw [List.getElem_append_right (Nat.le_refl _)]; simp [hb]
  have g1 : ∀ h : pre.length + 1 < (pre ++ (bytesN v 2 ++ post)).length, (pre ++ (bytesN v 2 ++ post))[pre.length + 1] = byteOf v 0 := fun h => by
    rw [List.getElem_append_right (by omega)]; simp [hb]
  have hl : pre.length + 2 ≤ (pre ++ (bytesN v 2 ++ post)).length := by simp [bytesN_length]
  unfold u16
  rw [bt_list _ m pre.length (by omega), bt_list _ m (pre.length + 1) (by omega), g0, g1, byteOf_nat, byteOf_nat]
  have e1 : (256 : Int) ^ 1 = 256 := by decide
  have e0 : (256 : Int) ^ 0 = 1 := by decide
  rw [e1, e0]
  omega
theorem fits_u (v : Int) (h : fitsN v 2 = true) : 0 ≤ v ∧ v < 65536 := by
  unfold fitsN at h
  rw [if_neg (by decide)] at h
  have := of_decide_eq_true h
  have e : (256 : Int) ^ (2 : Int).natAbs = 65536 := by decide
  rw [e] at this; exact this
theorem fits_i (v : Int) (h : fitsN v (-2) = true) : -32768 ≤ v ∧ v < 32768 := by
  unfold fitsN at h
  rw [if_pos (by decide)] at h
  have := of_decide_eq_true h
  have e : (256 : Int) ^ (-2 : Int).natAbs = 65536 := by decide
  rw [e] at this; omega
theorem i_fits {v : Int} (h : -32768 ≤ v ∧ v < 32768) : fitsN v (-2) = true := by
  unfold fitsN
  rw [if_pos (by decide)]
  have e : (256 : Int) ^ (-2 : Int).natAbs = 65536 := by decide
  rw [e]; exact decide_eq_true (by omega)
theorem u_fits {v : Int} (h : 0 ≤ v ∧ v < 65536) : fitsN v 2 = true := by
  unfold fitsN
  rw [if_neg (by decide)]
  have e : (256 : Int) ^ (2 : Int).natAbs = 65536 := by decide
  rw [e]; exact decide_eq_true h
theorem i16_of (pre post : List UInt8) (v : Int) (m : ByteArray) (p : Nat) (hp : pre.length = p) (hv : fitsN v (-2) = true) : i16 ((⟨(pre ++ (bytesN v 2 ++ post)).toArray⟩ : ByteArray) ++ m) p = v := by
  have h := fits_i v hv
  unfold i16
  rw [u16_of pre post v m p hp]
  by_cases hc : 32768 ≤ v % 65536
  · rw [if_pos hc]; omega
  · rw [if_neg hc]; omega
theorem B1_split (l : List S34) (i : Nat) (h : i < l.length) : B1 l = B1 (l.take i) ++ (bytesN l[i].f0 2 ++ (bytesN l[i].f1 2 ++ B1 (l.drop (i + 1)))) := by
  have e : l = l.take i ++ l[i] :: l.drop (i + 1) := by rw [List.getElem_cons_drop, List.take_append_drop]
  conv => lhs; rw [e]
  unfold B1
  rw [List.flatMap_append, List.flatMap_cons, List.append_assoc]
theorem B2_split (l : List S34) (i : Nat) (h : i < l.length) : B2 l = B2 (l.take i) ++ (bytesN l[i].f1 2 ++ B2 (l.drop (i + 1))) := by
  have e : l = l.take i ++ l[i] :: l.drop (i + 1) := by rw [List.getElem_cons_drop, List.take_append_drop]
  conv => lhs; rw [e]
  unfold B2
  rw [List.flatMap_append, List.flatMap_cons]
theorem ok_at (l : List S34) (hok : ok1 l = true) (i : Nat) (h : i < l.length) : fitsN l[i].f0 2 = true ∧ fitsN l[i].f1 (-2) = true := by
  unfold ok1 at hok
  rw [List.all_eq_true] at hok
  have := hok l[i] (List.getElem_mem h)
  rwa [Bool.and_eq_true] at this
theorem bytesM_low (l : List S34) (i : Nat) (hn : leastN l ≤ l.length) (h : i < leastN l) : ∃ post, bytesM l = B1 (l.take i) ++ (bytesN (l[i]'(by omega)).f0 2 ++ (bytesN (l[i]'(by omega)).f1 2 ++ post)) := by
  have hi : i < (l.take (leastN l)).length := by simp; omega
  refine ⟨B1 ((l.take (leastN l)).drop (i + 1)) ++ B2 (l.drop (leastN l)), ?_⟩
  unfold bytesM
  rw [B1_split _ i hi, List.take_take, show min i (leastN l) = i by omega, List.getElem_take]
  simp only [List.append_assoc]
theorem bytesM_high (l : List S34) (i : Nat) (hn : leastN l ≤ l.length) (h : leastN l ≤ i) (hi : i < l.length) : ∃ pre post, pre.length = 4 * leastN l + 2 * (i - leastN l) ∧ bytesM l = pre ++ (bytesN l[i].f1 2 ++ post) := by
  have hj : i - leastN l < (l.drop (leastN l)).length := by simp; omega
  refine ⟨B1 (l.take (leastN l)) ++ B2 ((l.drop (leastN l)).take (i - leastN l)), B2 ((l.drop (leastN l)).drop (i - leastN l + 1)), ?_, ?_⟩
  · rw [List.length_append, B1_length, B2_length, List.length_take, List.length_take, List.length_drop]; omega
  · unfold bytesM
    rw [B2_split _ (i - leastN l) hj]
    have e : (l.drop (leastN l))[i - leastN l] = l[i] := by rw [List.getElem_drop]; congr 1; omega
    rw [e]
    simp only [List.append_assoc]
theorem metric_back (l : List S34) (more : ByteArray) (hok : ok1 l = true) (i : Nat) (h : i < l.length) : metricAt ((⟨(bytesM l).toArray⟩ : ByteArray) ++ more) (leastN l) i = l[i] := by
  have h0 : 0 < l.length := by omega
  have hn := leastN_le l h0
  have hs := leastN_spec l h0
  have hu : ∀ j (hj : j < leastN l), u16 ((⟨(bytesM l).toArray⟩ : ByteArray) ++ more) (4 * j) = (l[j]'(by omega)).f0 := fun j hj => by
    obtain ⟨post, e⟩ := bytesM_low l j hn.2 hj
    rw [e, u16_of _ _ _ _ _ (by rw [B1_length, List.length_take]; omega)]
    have := fits_u _ (ok_at l hok j (by omega)).1
    omega
  unfold metricAt
  by_cases hlt : i < leastN l
  · rw [if_pos hlt, hu i hlt]
    obtain ⟨post, e⟩ := bytesM_low l i hn.2 hlt
    have : i16 ((⟨(bytesM l).toArray⟩ : ByteArray) ++ more) (4 * i + 2) = l[i].f1 := by
      rw [e, ← List.append_assoc]
      exact i16_of _ _ _ _ _ (by rw [List.length_append, B1_length, bytesN_length, List.length_take]; omega) (ok_at l hok i h).2
    rw [this]
  · rw [if_neg hlt, hu (leastN l - 1) (by omega)]
    obtain ⟨pre, post, hp, e⟩ := bytesM_high l i hn.2 (by omega) h
    have h1 : i16 ((⟨(bytesM l).toArray⟩ : ByteArray) ++ more) (4 * leastN l + 2 * (i - leastN l)) = l[i].f1 := by
      rw [e]; exact i16_of _ _ _ _ _ hp (ok_at l hok i h).2
    have h2 : (l[leastN l - 1]'(by omega)).f0 = l[i].f0 := by
      have a := hs.1 (leastN l - 1) (Nat.le_refl _) (by omega)
      have b := hs.1 i (by omega) h
      unfold adv at a b
      rw [rd_get l _ (by omega)] at a
      rw [rd_get l i h] at b
      rw [a, b]
    rw [h1, h2]
theorem bytesM_length (l : List S34) (h0 : 0 < l.length) : (bytesM l).length = 2 * leastN l + 2 * l.length := by
  have hn := leastN_le l h0
  unfold bytesM
  rw [List.length_append, B1_length, B2_length, List.length_take, List.length_drop]; omega
theorem get_back (l : List S34) (more : ByteArray) (hok : ok1 l = true) (h0 : 0 < l.length) (hl : l.length ≤ 65535) : hmtx_Get.f ((⟨(bytesM l).toArray⟩ : ByteArray) ++ more) (l.length : Int) (leastN l : Int) = some (l, 0) := by
  have hn := leastN_le l h0
  have hb := bytesM_length l h0
  have hs : ((⟨(bytesM l).toArray⟩ : ByteArray) ++ more).size = (bytesM l).length + more.size := by rw [ByteArray.size_append, ba_size]
  rw [get_told _ l.length (leastN l) hn.1 hn.2 hl (by rw [hs, hb]; omega)]
  congr 2
  apply List.ext_getElem
  · simp
  · intro i h1 h2
    rw [List.getElem_map, List.getElem_range]
    exact metric_back l more hok i h2
/-! ### The references' Same; the closed rows -/
theorem same_self (l : List S34) (hl : l.length ≤ 9223372036854775806) (d : Nat) : ∀ k i, l.length - i = d → i ≤ l.length → d < k → vinculumref06_Same.l0 k l l (i : Int) = some true := by
  induction d with
  | zero =>
    intro k i hd hi hk
    obtain ⟨k, rfl⟩ : ∃ m, k = m + 1 := ⟨k - 1, by omega⟩
    simp only [vinculumref06_Same.l0]
    rw [if_neg (by omega)]
  | succ d ih =>
    intro k i hd hi hk
    obtain ⟨k, rfl⟩ : ∃ m, k = m + 1 := ⟨k - 1, by omega⟩
    simp only [vinculumref06_Same.l0]
    have hw : wrap64 ((i : Int) + 1) = ((i + 1 : Nat) : Int) := by unfold wrap64; omega
    rw [if_pos (by omega), if_pos (by omega), if_pos (by omega), if_neg (by simp), hw]
    exact ih k (i + 1) (by omega) (by omega) (by omega)
theorem same_told (l : List S34) (hl : l.length ≤ 9223372036854775806) (k : Nat) (hk : l.length < k) : vinculumref06_Same.f k l l = some true := by
  unfold vinculumref06_Same.f
  rw [if_pos rfl]
  exact same_self l hl l.length k 0 (by omega) (by omega) (by omega)
end Go.Proofs.Ytjbhnohomhnhjaa.P
