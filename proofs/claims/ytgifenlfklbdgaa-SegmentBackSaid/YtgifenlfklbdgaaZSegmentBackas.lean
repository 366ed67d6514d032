/- A part of the proof of the law SegmentBack: the words, contracts and plain facts that it needs, no more. Each says its own condition. -/
import Derived.Test.YtgifenlfklbdgaaZSegmentBackaq
import Derived.Test.YtgifenlfklbdgaaZSegmentBackak
import Derived.Test.YtgifenlfklbdgaaZSegmentBackar
import Derived.Test.YtgifenlfklbdgaaZSegmentBackg
section
namespace Go.Proofs.Ytgifenlfklbdgaa.P
open Go.RowKit Go.Proofs.YtgifenlfklbdgaaW.PrintWords Go.Proofs.YtgifenlfklbdgaaW.PrintLast Go.Proofs.YtgifenlfklbdgaaW.PrintMore
set_option linter.unusedSimpArgs false
set_option linter.unusedVariables false
theorem short09_loop (l : List S42) (hl : l.length ≤ 60) (d : Nat) : ∀ k a i, l.length - i = d → i ≤ l.length → 2 * d + 3 ≤ k → ∃ b, vinculumref09_Short.l0 k l a (i : Int) = some b := by
  induction d with
  | zero =>
    intro k a i hd hi hk
    obtain ⟨k, rfl⟩ : ∃ n, k = n + 2 := ⟨k - 2, by omega⟩
    simp only [vinculumref09_Short.l0]
    rw [if_neg (by omega)]
    simp only [vinculumref09_Short.j1]
    rw [if_neg Bool.false_ne_true]
    split <;> exact ⟨_, rfl⟩
  | succ d ih =>
    intro k a i hd hi hk
    obtain ⟨k, rfl⟩ : ∃ n, k = n + 2 := ⟨k - 2, by omega⟩
    have hw : wrap64 ((i : Int) + 1) = ((i + 1 : Nat) : Int) := by unfold wrap64; omega
    simp only [vinculumref09_Short.l0]
    rw [if_pos (by omega), decide_eq_true (show (l.length : Int) ≤ 60 by omega)]
    simp only [vinculumref09_Short.j1]
    rw [if_pos trivial, if_pos (by omega), if_pos (by omega), hw]
    split
    · exact ih k _ (i + 1) (by omega) (by omega) (by omega)
    · exact ih k _ (i + 1) (by omega) (by omega) (by omega)
theorem short09_told (l : List S42) (k : Nat) (hk : 200 ≤ k) : ∃ b, vinculumref09_Short.f k l = some b ∧ (b = true → l.length ≤ 60) := by
  by_cases hl : l.length ≤ 60
  · obtain ⟨b, hb⟩ := short09_loop l hl l.length k 0 0 rfl (by omega) (by omega)
    exact ⟨b, hb, fun _ => hl⟩
  · refine ⟨false, ?_, fun h => absurd h (by decide)⟩
    obtain ⟨k, rfl⟩ : ∃ n, k = n + 2 := ⟨k - 2, by omega⟩
    unfold vinculumref09_Short.f
    simp only [vinculumref09_Short.l0]
    rw [if_pos (by omega), decide_eq_false (show ¬ (l.length : Int) ≤ 60 by omega)]
    simp only [vinculumref09_Short.j1]
    rw [if_neg Bool.false_ne_true, if_neg (show ¬ (l.length : Int) ≤ 60 by omega)]
def P0 : List S42 := [⟨65, 70, 3, 1⟩, ⟨80, 81, 9, 0⟩]
def P1 : List S42 := [⟨65, 70, 3, 1⟩, ⟨80, 81, 9, 0⟩, ⟨65535, 65535, 0, 1⟩]
def P2 : List S42 := [⟨65, 70, 3, 1⟩, ⟨80, 80, 9, 1⟩, ⟨81, 81, 9, 1⟩, ⟨65535, 65535, 0, 1⟩]
theorem p0_seg : segP P0 = (P1, 2, 0) := by kernel_rfl
theorem p0_put : putS P0 = (⟨(bytesS (outS P1 (cntR P1))).toArray⟩, 0) := by
  unfold putS
  rw [p0_seg]
  rfl
theorem p1_flat : P1.flatMap segX = P2 := by kernel_rfl
theorem p0_get : getS (putS P0).1 = (P2, 0) := by
  obtain ⟨_, _, _, _, hg⟩ := segP_good p0_seg
  have := get_out hg []
  rw [List.append_nil] at this
  rw [p0_put, this, p1_flat]
theorem p0_size : (putS P0).1.size = 44 := by
  rw [p0_put, ba_size]
  decide +kernel
theorem p0_half : (getS ((putS P0).1.extract 0 22)).2 = 4 := by
  rw [p0_put]
  decide +kernel
theorem seg_Many_told (l : List S42) : segment_Many.f l = some (((segP l).1.length : Int), (segP l).2.1, (segP l).2.2) := by
  unfold segment_Many.f segment_segments.f
  rw [Option.bind_some]
theorem parted_told (k : Nat) (hk : 66000 ≤ k) : vinculumlaw09_parted.f k = some true := by
  have s2 : vinculumref08_Same.f k P2 P2 = some true := same_self8 P2 (by decide) k (by show 4 < k; omega)
  have e0 : (putS P0).2 = 0 := by rw [p0_put]
  have h22 : wrap64 (((putS P0).1.size : Int) / 2) = 22 := by rw [p0_size]; decide +kernel
  unfold vinculumlaw09_parted.f
  rw [Option.bind_some]
  show (segment_Put.f P0).bind _ = _
  have hP : segment_Put.f P0 = some (putS P0) := rfl
  rw [hP, Option.bind_some]
  have hG : segment_Get.f (putS P0).1 = some (P2, 0) := by
    show some (getS (putS P0).1) = _
    rw [p0_get]
  rw [hG, Option.bind_some]
  have hM : segment_Many.f P0 = some (3, 2, 0) := by rw [seg_Many_told, p0_seg]; rfl
  show (segment_Many.f P0).bind _ = _
  rw [hM, Option.bind_some, h22, if_pos (by decide), if_pos (by rw [p0_size]; decide)]
  have hH : segment_Get.f ((putS P0).1.extract 0 (22 : Int).toNat) = some (getS ((putS P0).1.extract 0 22)) := rfl
  rw [hH, Option.bind_some, if_pos e0, if_pos (by rw [p0_size]; rfl), if_pos (by rw [e0])]
  show (vinculumref08_Same.f k P2 P2).bind _ = _
  rw [s2, Option.bind_some, if_pos rfl, if_pos (by rw [e0]), if_pos (by rfl), if_pos (by rfl), p0_half]
  rfl
theorem putS_bad {l : List S42} (h : (putS l).2 ≠ 0) : (putS l).1 = ⟨#[]⟩ ∧ (putS l).2 = (segP l).2.2 := by
  unfold putS at h ⊢
  by_cases h1 : (segP l).2.2 ≠ 0
  · rw [if_pos h1]; exact ⟨rfl, rfl⟩
  · rw [if_neg h1] at h; exact absurd rfl h
theorem put_get {l : List S42} (h : (putS l).2 = 0) (m : ByteArray) : ∃ L, segP l = (L, (cntR L : Int), 0) ∧ GoodS L ∧ (putS l).1 = ⟨(bytesS (outS L (cntR L))).toArray⟩ ∧ getS ((putS l).1 ++ m) = (L.flatMap segX, 0) ∧ isL l = true ∧ isL (L.flatMap segX) = true ∧ (∀ c, lookN (L.flatMap segX) c = lookN l c) ∧ 2 * (outS L (cntR L)).length = (putS l).1.size := by
  obtain ⟨L, k, hs, hp⟩ := putS_ok h
  obtain ⟨hi, _, hk, _, hg⟩ := segP_good hs
  obtain ⟨h1, h2⟩ := segX_good hs
  refine ⟨L, by rw [hs, hk], hg, hp, ?_, hi, h1, h2, ?_⟩
  · have e : (putS l).1 ++ m = ⟨(bytesS (outS L (cntR L)) ++ m.data.toList).toArray⟩ := by
      rw [hp]
      apply ByteArray.ext
      simp
    rw [e]
    exact get_out hg _
  · rw [hp, ba_size, bytesS_length]
theorem glyph_same {l M : List S42} (h1 : isL l = true) (h2 : isL M = true) (h : ∀ c, lookN M c = lookN l c) (c : Int) : glyphOf M c = glyphOf l c := by
  unfold glyphOf
  rw [h1, h2, if_pos rfl, if_pos rfl, h c]
end Go.Proofs.Ytgifenlfklbdgaa.P
end
section
namespace Go.Proofs.Ytgifenlfklbdgaa.Pure
open Go.RowKit Go.Proofs.Ytgifenlfklbdgaa.P Go.Proofs.YtgifenlfklbdgaaW.PrintWords Go.Proofs.YtgifenlfklbdgaaW.PrintLast
set_option linter.unusedSimpArgs false
set_option linter.unusedVariables false
theorem sback_told (l : List S42) (c : Int) (m : ByteArray) (K : Nat) (hK : 300000 ≤ K) : vinculumlaw09_SegmentBack.f (K + 1) l c m = some true := by
  obtain ⟨b, hb, _⟩ := short09_told l (K + 1) (by omega)
  unfold vinculumlaw09_SegmentBack.f
  rw [hb, Option.bind_some]
  have hj : ∀ q, q = true ∨ m.size ≤ 100 → vinculumlaw09_SegmentBack.j0 (K + 1) l c m q = some true := fun q hq => by
    simp only [vinculumlaw09_SegmentBack.j0]
    cases q with
    | true => rw [if_pos rfl]
    | false =>
      have hm : m.size ≤ 100 := by rcases hq with h | h; exact absurd h (by decide); exact h
      rw [if_neg Bool.false_ne_true]
      have hP : segment_Put.f l = some (putS l) := rfl
      rw [hP, Option.bind_some, parted_told K (by omega)]
      by_cases h0 : (putS l).2 = 0
      case neg =>
        obtain ⟨hz, _⟩ := putS_bad h0
        rw [if_neg h0, Option.bind_some, if_pos rfl, hz]
        decide +kernel
      obtain ⟨L, hs, hg, hp, hget, hi, h1, h2, h3⟩ := put_get h0 m
      have hfit : (putS l).1.size ≤ 65535 := by
        have := hg.s
        rw [← h3, out_length]; omega
      have hG : segment_Get.f ((putS l).1 ++ m) = some (L.flatMap segX, 0) := by
        show some (getS ((putS l).1 ++ m)) = _
        rw [hget]
      have his : chart_Is.f (L.flatMap segX) = some true := by unfold chart_Is.f; rw [h1]
      rw [if_pos h0, if_pos (by omega), hG, Option.bind_some, Option.bind_some, if_pos rfl, if_pos rfl, his, Option.bind_some, if_pos rfl, look_told, Option.bind_some, look_told, Option.bind_some, glyph_same hi h1 h2, if_pos rfl]
      have hev : ((putS l).1.size : Int) % 2 = 0 := by omega
      rw [hev]
      rfl
  cases b with
  | false => rw [if_neg Bool.false_ne_true]; exact hj true (.inl rfl)
  | true =>
    rw [if_pos rfl]
    by_cases hm : m.size ≤ 100
    · exact hj _ (.inr hm)
    · exact hj _ (.inl (decide_eq_true (by omega)))
end Go.Proofs.Ytgifenlfklbdgaa.Pure
end
