/- A part of the proof of the law SegmentMany: the words, contracts and plain facts that it needs, no more. Each says its own condition. -/
import Derived.Test.YtgifenlfklbdgaaZSegmentManyao
import Derived.Test.YtgifenlfklbdgaaZSegmentManyai
import Derived.Test.YtgifenlfklbdgaaZSegmentManyap
import Derived.Test.YtgifenlfklbdgaaZSegmentManyg
section
namespace Go.Proofs.Ytgifenlfklbdgaa.P
open Go.RowKit Go.Proofs.YtgifenlfklbdgaaW.PrintWords Go.Proofs.YtgifenlfklbdgaaW.PrintLast Go.Proofs.YtgifenlfklbdgaaW.PrintMore
set_option linter.unusedSimpArgs false
set_option linter.unusedVariables false
theorem short09_loop (l : List S42) (hl : l.length ≤ 60) (d : Nat) : ∀ k a i, l.length - i = d → i ≤ l.length → 2 * d + 3 ≤ k → ∃ b, vinculumref09_Short.l0 k l a (i : Int) = some b := by
  induction d with
  | zero =>
    intro k a i hd hi hk
    obtain ⟨k, rfl⟩ : ∃ n, k = n + 2 := ⟨k - 2, by omega⟩
    simp only [vinculumref09_Short.l0]
    rw [if_neg (by omega)]
    simp only [vinculumref09_Short.j1]
    rw [if_neg Bool.false_ne_true]
    split <;> exact ⟨_, rfl⟩
  | succ d ih =>
    intro k a i hd hi hk
    obtain ⟨k, rfl⟩ : ∃ n, k = n + 2 := ⟨k - 2, by omega⟩
    have hw : wrap64 ((i : Int) + 1) = ((i + 1 : Nat) : Int) := by unfold wrap64; omega
    simp only [vinculumref09_Short.l0]
    rw [if_pos (by omega), decide_eq_true (show (l.length : Int) ≤ 60 by omega)]
    simp only [vinculumref09_Short.j1]
    rw [if_pos trivial, if_pos (by omega), if_pos (by omega), hw]
    split
    · exact ih k _ (i + 1) (by omega) (by omega) (by omega)
    · exact ih k _ (i + 1) (by omega) (by omega) (by omega)
theorem short09_told (l : List S42) (k : Nat) (hk : 200 ≤ k) : ∃ b, vinculumref09_Short.f k l = some b ∧ (b = true → l.length ≤ 60) := by
  by_cases hl : l.length ≤ 60
  · obtain ⟨b, hb⟩ := short09_loop l hl l.length k 0 0 rfl (by omega) (by omega)
    exact ⟨b, hb, fun _ => hl⟩
  · refine ⟨false, ?_, fun h => absurd h (by decide)⟩
    obtain ⟨k, rfl⟩ : ∃ n, k = n + 2 := ⟨k - 2, by omega⟩
    unfold vinculumref09_Short.f
    simp only [vinculumref09_Short.l0]
    rw [if_pos (by omega), decide_eq_false (show ¬ (l.length : Int) ≤ 60 by omega)]
    simp only [vinculumref09_Short.j1]
    rw [if_neg Bool.false_ne_true, if_neg (show ¬ (l.length : Int) ≤ 60 by omega)]
def P0 : List S42 := [⟨65, 70, 3, 1⟩, ⟨80, 81, 9, 0⟩]
def P1 : List S42 := [⟨65, 70, 3, 1⟩, ⟨80, 81, 9, 0⟩, ⟨65535, 65535, 0, 1⟩]
def P2 : List S42 := [⟨65, 70, 3, 1⟩, ⟨80, 80, 9, 1⟩, ⟨81, 81, 9, 1⟩, ⟨65535, 65535, 0, 1⟩]
theorem p0_seg : segP P0 = (P1, 2, 0) := by kernel_rfl
theorem p0_put : putS P0 = (⟨(bytesS (outS P1 (cntR P1))).toArray⟩, 0) := by
  unfold putS
  rw [p0_seg]
  rfl
theorem p1_flat : P1.flatMap segX = P2 := by kernel_rfl
theorem p0_get : getS (putS P0).1 = (P2, 0) := by
  obtain ⟨_, _, _, _, hg⟩ := segP_good p0_seg
  have := get_out hg []
  rw [List.append_nil] at this
  rw [p0_put, this, p1_flat]
theorem p0_size : (putS P0).1.size = 44 := by
  rw [p0_put, ba_size]
  decide +kernel
theorem p0_half : (getS ((putS P0).1.extract 0 22)).2 = 4 := by
  rw [p0_put]
  decide +kernel
theorem seg_Many_told (l : List S42) : segment_Many.f l = some (((segP l).1.length : Int), (segP l).2.1, (segP l).2.2) := by
  unfold segment_Many.f segment_segments.f
  rw [Option.bind_some]
theorem parted_told (k : Nat) (hk : 66000 ≤ k) : vinculumlaw09_parted.f k = some true := by
  have s2 : vinculumref08_Same.f k P2 P2 = some true := same_self8 P2 (by decide) k (by show 4 < k; omega)
  have e0 : (putS P0).2 = 0 := by rw [p0_put]
  have h22 : wrap64 (((putS P0).1.size : Int) / 2) = 22 := by rw [p0_size]; decide +kernel
  unfold vinculumlaw09_parted.f
  rw [Option.bind_some]
  show (segment_Put.f P0).bind _ = _
  have hP : segment_Put.f P0 = some (putS P0) := rfl
  rw [hP, Option.bind_some]
  have hG : segment_Get.f (putS P0).1 = some (P2, 0) := by
    show some (getS (putS P0).1) = _
    rw [p0_get]
  rw [hG, Option.bind_some]
  have hM : segment_Many.f P0 = some (3, 2, 0) := by rw [seg_Many_told, p0_seg]; rfl
  show (segment_Many.f P0).bind _ = _
  rw [hM, Option.bind_some, h22, if_pos (by decide), if_pos (by rw [p0_size]; decide)]
  have hH : segment_Get.f ((putS P0).1.extract 0 (22 : Int).toNat) = some (getS ((putS P0).1.extract 0 22)) := rfl
  rw [hH, Option.bind_some, if_pos e0, if_pos (by rw [p0_size]; rfl), if_pos (by rw [e0])]
  show (vinculumref08_Same.f k P2 P2).bind _ = _
  rw [s2, Option.bind_some, if_pos rfl, if_pos (by rw [e0]), if_pos (by rfl), if_pos (by rfl), p0_half]
  rfl
theorem put_get {l : List S42} (h : (putS l).2 = 0) (m : ByteArray) : ∃ L, segP l = (L, (cntR L : Int), 0) ∧ GoodS L ∧ (putS l).1 = ⟨(bytesS (outS L (cntR L))).toArray⟩ ∧ getS ((putS l).1 ++ m) = (L.flatMap segX, 0) ∧ isL l = true ∧ isL (L.flatMap segX) = true ∧ (∀ c, lookN (L.flatMap segX) c = lookN l c) ∧ 2 * (outS L (cntR L)).length = (putS l).1.size := by
  obtain ⟨L, k, hs, hp⟩ := putS_ok h
  obtain ⟨hi, _, hk, _, hg⟩ := segP_good hs
  obtain ⟨h1, h2⟩ := segX_good hs
  refine ⟨L, by rw [hs, hk], hg, hp, ?_, hi, h1, h2, ?_⟩
  · have e : (putS l).1 ++ m = ⟨(bytesS (outS L (cntR L)) ++ m.data.toList).toArray⟩ := by
      rw [hp]
      apply ByteArray.ext
      simp
    rw [e]
    exact get_out hg _
  · rw [hp, ba_size, bytesS_length]
end Go.Proofs.Ytgifenlfklbdgaa.P
end
section
namespace Go.Proofs.Ytgifenlfklbdgaa.Pure
open Go.RowKit Go.Proofs.Ytgifenlfklbdgaa.P Go.Proofs.YtgifenlfklbdgaaW.PrintWords Go.Proofs.YtgifenlfklbdgaaW.PrintLast
set_option linter.unusedSimpArgs false
set_option linter.unusedVariables false
theorem fits1 {n : Nat} (h : n ≤ 60) : n < 4398046511104 := Nat.lt_of_le_of_lt h (by decide)
theorem fits0 {l : List S42} (h : l.length ≤ 60) : ([] : List S42).length + l.length < 4398046511104 := by
  rw [List.length_nil, Nat.zero_add]; exact fits1 h
theorem wsmall {x : Int} (h0 : 0 ≤ x) (h1 : x ≤ 1000000) : wrap64 x = x := by unfold wrap64; omega
theorem wsum {a b : Nat} (h : 16 + 8 * a + 2 * b ≤ 65535) : wrap64 (wrap64 (16 + wrap64 (8 * (a : Int))) + wrap64 (2 * (b : Int))) = 16 + 8 * (a : Int) + 2 * (b : Int) := by
  rw [wsmall (x := 8 * (a : Int)) (by omega) (by omega), wsmall (x := 2 * (b : Int)) (by omega) (by omega), wsmall (x := 16 + 8 * (a : Int)) (by omega) (by omega), wsmall (by omega) (by omega)]
theorem putS_err (l : List S42) : (putS l).2 = (segP l).2.2 := by
  unfold putS
  by_cases h : (segP l).2.2 ≠ 0
  · rw [if_pos h]
  · rw [if_neg h]; exact (Decidable.of_not_not h).symm
theorem last_all {l : List S42} (hr : ∀ y ∈ l, rightN y = true) (ho : ordN l = true) (h : 0 < l.length) : ∀ x ∈ l, x.f1 ≤ (rd_T42 l ((l.length - 1 : Nat) : Int)).f1 := fun x hx => by
  obtain ⟨i, hi, rfl⟩ := List.getElem_of_mem hx
  rw [rd_get l (l.length - 1) (by omega)]
  by_cases e : i = l.length - 1
  · subst e; exact Int.le_refl _
  · have := ord_at_lt hr ho (show i < l.length - 1 by omega) (by omega)
    have := ((right_iff _).1 (hr _ (List.getElem_mem (show l.length - 1 < l.length by omega)))).2.1
    have := ((right_iff _).1 (hr _ (List.getElem_mem hi))).2.1
    omega
theorem segP_more {l : List S42} (hi : isL l = true) (hl : l.length ≤ 60) {c : Int} (h0 : ∀ x ∈ l, x.f1 < c) (h1 : 0 ≤ c) (h2 : c ≤ 1114111) : segP (l ++ [⟨c, 1114111, 0, 0⟩]) = segP l := by
  obtain ⟨_, hr, ho⟩ := isL_all hi
  have hr1 : rightN (⟨c, 1114111, 0, 0⟩ : S42) = true := (right_iff _).2 ⟨h1, h2, Int.le_refl _, .inl rfl, by show (0 : Int) ≤ 0; omega, by show (0 : Int) ≤ 65535; omega, by show (0 : Int) + 0 * (1114111 - c) ≤ 65535; omega⟩
  have hi1 : isL (l ++ [⟨c, 1114111, 0, 0⟩]) = true := by
    refine isL_mk (by rw [List.length_append]; show l.length + 1 ≤ 65536; omega) (fun x hx => ?_) ?_
    · rcases List.mem_append.1 hx with h | h
      · exact hr x h
      · rw [List.mem_singleton.1 h]; exact hr1
    · exact ord_app hr (fun x hx y hy => by rw [List.mem_singleton.1 hy]; exact h0 x hx) ho rfl
  have hk : keptL (l ++ [⟨c, 1114111, 0, 0⟩]) = keptL l := by
    unfold keptL
    rw [List.filter_append]
    have : List.filter keptN [(⟨c, 1114111, 0, 0⟩ : S42)] = [] := rfl
    rw [this, List.append_nil]
  unfold segP
  rw [hi, hi1, hk]
theorem many_len {l L : List S42} {k : Int} (h : segP l = (L, k, 0)) : L.length ≤ l.length + 1 := by
  obtain ⟨_, hL, _⟩ := segP_good h
  have h1 : (keptL l).length ≤ l.length := List.length_filter_le _ _
  rw [hL]
  unfold closeL tailS
  rw [List.length_append]
  split <;> simp <;> omega
theorem smany_told (l : List S42) (c : Int) (K : Nat) (hK : 300000 ≤ K) : vinculumlaw09_SegmentMany.f (K + 2) l c = some true := by
  obtain ⟨b, hb, hlen⟩ := short09_told l (K + 2) (by omega)
  unfold vinculumlaw09_SegmentMany.f
  rw [hb, Option.bind_some]
  cases b with
  | false => rw [if_neg Bool.false_ne_true]
  | true =>
  have hlen := hlen rfl
  have hP : segment_Put.f l = some (putS l) := rfl
  rw [if_pos rfl, seg_Many_told, Option.bind_some, hP, Option.bind_some, parted_told (K + 2) (by omega)]
  rw [if_pos (putS_err l).symm]
  by_cases h0 : (segP l).2.2 = 0
  case neg =>
    rw [if_neg h0, Option.bind_some, if_pos rfl]
    rcases @segP_err l with h | ⟨e1, e2, h⟩
    · exact absurd h h0
    have his : chart_Is.f l = some (isL l) := rfl
    rw [e1, e2, if_pos (by rfl), if_pos rfl, his, Option.bind_some]
    rcases h with ⟨h, hi⟩ | ⟨h, hi⟩
    · rw [h, hi]; rfl
    · rw [h, hi]; rfl
  obtain ⟨L, hs, hg, hp, _, hi, h1, h2, h3⟩ := put_get (show (putS l).2 = 0 by rw [putS_err, h0]) ⟨#[]⟩
  obtain ⟨_, hr, ho⟩ := isL_all hi
  have hmany := many_len hs
  have hbd := hg.s
  have hsz : ((putS l).1.size : Int) = 16 + 8 * (L.length : Int) + 2 * (cntR L : Int) := by rw [← h3, out_length]; omega
  have hw : wrap64 (wrap64 (16 + wrap64 (8 * (L.length : Int))) + wrap64 (2 * (cntR L : Int))) = 16 + 8 * (L.length : Int) + 2 * (cntR L : Int) := wsum hbd
  have hw1 : wrap64 ((l.length : Int) + 1) = (l.length : Int) + 1 := wsmall (by omega) (by omega)
  have hcond : ((putS l).1.size : Int) = wrap64 (wrap64 (16 + wrap64 (8 * (L.length : Int))) + wrap64 (2 * (cntR L : Int))) := by rw [hw, hsz]
  have hj1 : ∀ q : Bool, q = true ∨ ((∀ x ∈ l, x.f1 < c) ∧ 0 ≤ c ∧ c ≤ 1114111) → vinculumlaw09_SegmentMany.j1 (K + 1) l c (L.length : Int) (cntR L : Int) (putS l).1 q = some true := fun q hq => by
    simp only [vinculumlaw09_SegmentMany.j1]
    rw [parted_told K (by omega)]
    cases q with
    | true => rw [if_pos rfl, Option.bind_some, if_pos rfl, if_pos hcond, hw1, decide_eq_true (by omega)]
    | false =>
      obtain ⟨q1, q2, q3⟩ : (∀ x ∈ l, x.f1 < c) ∧ 0 ≤ c ∧ c ≤ 1114111 := by rcases hq with h | h; exact absurd h (by decide); exact h
      have hsame : putS (l ++ [⟨c, 1114111, 0, 0⟩]) = putS l := by
        unfold putS
        rw [segP_more hi hlen q1 q2 q3]
      have hP2 : segment_Put.f (l ++ [⟨c, 1114111, 0, 0⟩]) = some (putS l) := by
        show some (putS _) = _
        rw [hsame]
      rw [if_neg Bool.false_ne_true, if_pos (fits0 hlen), List.nil_append, Option.bind_some, if_pos (fits1 hlen), hP2, Option.bind_some, Option.bind_some, if_pos rfl, if_pos (by rw [putS_err, h0])]
      exact congrArg some (beq_self_eq_true _)
  have hj0 : ∀ t : Int, (∀ x ∈ l, x.f1 ≤ t) → -1 ≤ t → vinculumlaw09_SegmentMany.j0 (K + 2) l c (L.length : Int) (cntR L : Int) (putS l).1 t = some true := fun t ht ht1 => by
    simp only [vinculumlaw09_SegmentMany.j0]
    rw [if_pos hcond, hw1, if_neg (by omega)]
    by_cases q1 : c ≤ t
    · rw [if_pos q1]; exact hj1 true (.inl rfl)
    rw [if_neg q1]
    by_cases q2 : c > 1114111
    · exact hj1 _ (.inl (decide_eq_true q2))
    · exact hj1 _ (.inr ⟨fun x hx => by have := ht x hx; omega, by omega, by omega⟩)
  rw [if_pos h0, hs]
  show (if (l.length : Int) > 0 then _ else _) = _
  by_cases hl : (l.length : Int) > 0
  · have e : wrap64 ((l.length : Int) - 1) = ((l.length - 1 : Nat) : Int) := by rw [wsmall (by omega) (by omega)]; omega
    have hlast := last_all hr ho (by omega)
    rw [if_pos hl, e, if_pos (by omega), if_pos (by omega)]
    refine hj0 _ hlast ?_
    have := hlast l[0] (List.getElem_mem (by omega))
    have := ((right_iff _).1 (hr _ (List.getElem_mem (show 0 < l.length by omega))))
    omega
  · rw [if_neg hl]
    have hnil : l = [] := List.length_eq_zero_iff.1 (by omega)
    exact hj0 _ (fun x hx => by rw [hnil] at hx; exact absurd hx (by simp)) (Int.le_refl _)
end Go.Proofs.Ytgifenlfklbdgaa.Pure
end
