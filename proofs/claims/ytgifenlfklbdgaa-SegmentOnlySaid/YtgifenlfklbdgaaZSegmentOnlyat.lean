/- A part of the proof of the law SegmentOnly: the words, contracts and plain facts that it needs, no more. Each says its own condition. -/
import Derived.Test.YtgifenlfklbdgaaZSegmentOnlyar
import Derived.Test.YtgifenlfklbdgaaZSegmentOnlyal
import Derived.Test.YtgifenlfklbdgaaZSegmentOnlyas
import Derived.Test.YtgifenlfklbdgaaZSegmentOnlyg
import Derived.Test.YtgifenlfklbdgaaZSegmentOnlyq
section
namespace Go.Proofs.Ytgifenlfklbdgaa.P
open Go.RowKit Go.Proofs.YtgifenlfklbdgaaW.PrintWords Go.Proofs.YtgifenlfklbdgaaW.PrintLast Go.Proofs.YtgifenlfklbdgaaW.PrintMore
set_option linter.unusedSimpArgs false
set_option linter.unusedVariables false
def P0 : List S42 := [⟨65, 70, 3, 1⟩, ⟨80, 81, 9, 0⟩]
def P1 : List S42 := [⟨65, 70, 3, 1⟩, ⟨80, 81, 9, 0⟩, ⟨65535, 65535, 0, 1⟩]
def P2 : List S42 := [⟨65, 70, 3, 1⟩, ⟨80, 80, 9, 1⟩, ⟨81, 81, 9, 1⟩, ⟨65535, 65535, 0, 1⟩]
theorem p0_seg : segP P0 = (P1, 2, 0) := by kernel_rfl
theorem p0_put : putS P0 = (⟨(bytesS (outS P1 (cntR P1))).toArray⟩, 0) := by
  unfold putS
  rw [p0_seg]
  rfl
theorem p1_flat : P1.flatMap segX = P2 := by kernel_rfl
theorem p0_get : getS (putS P0).1 = (P2, 0) := by
  obtain ⟨_, _, _, _, hg⟩ := segP_good p0_seg
  have := get_out hg []
  rw [List.append_nil] at this
  rw [p0_put, this, p1_flat]
theorem p0_size : (putS P0).1.size = 44 := by
  rw [p0_put, ba_size]
  decide +kernel
theorem p0_half : (getS ((putS P0).1.extract 0 22)).2 = 4 := by
  rw [p0_put]
  decide +kernel
theorem seg_Many_told (l : List S42) : segment_Many.f l = some (((segP l).1.length : Int), (segP l).2.1, (segP l).2.2) := by
  unfold segment_Many.f segment_segments.f
  rw [Option.bind_some]
theorem parted_told (k : Nat) (hk : 66000 ≤ k) : vinculumlaw09_parted.f k = some true := by
  have s2 : vinculumref08_Same.f k P2 P2 = some true := same_self8 P2 (by decide) k (by show 4 < k; omega)
  have e0 : (putS P0).2 = 0 := by rw [p0_put]
  have h22 : wrap64 (((putS P0).1.size : Int) / 2) = 22 := by rw [p0_size]; decide +kernel
  unfold vinculumlaw09_parted.f
  rw [Option.bind_some]
  show (segment_Put.f P0).bind _ = _
  have hP : segment_Put.f P0 = some (putS P0) := rfl
  rw [hP, Option.bind_some]
  have hG : segment_Get.f (putS P0).1 = some (P2, 0) := by
    show some (getS (putS P0).1) = _
    rw [p0_get]
  rw [hG, Option.bind_some]
  have hM : segment_Many.f P0 = some (3, 2, 0) := by rw [seg_Many_told, p0_seg]; rfl
  show (segment_Many.f P0).bind _ = _
  rw [hM, Option.bind_some, h22, if_pos (by decide), if_pos (by rw [p0_size]; decide)]
  have hH : segment_Get.f ((putS P0).1.extract 0 (22 : Int).toNat) = some (getS ((putS P0).1.extract 0 22)) := rfl
  rw [hH, Option.bind_some, if_pos e0, if_pos (by rw [p0_size]; rfl), if_pos (by rw [e0])]
  show (vinculumref08_Same.f k P2 P2).bind _ = _
  rw [s2, Option.bind_some, if_pos rfl, if_pos (by rw [e0]), if_pos (by rfl), if_pos (by rfl), p0_half]
  rfl
theorem putS_bad {l : List S42} (h : (putS l).2 ≠ 0) : (putS l).1 = ⟨#[]⟩ ∧ (putS l).2 = (segP l).2.2 := by
  unfold putS at h ⊢
  by_cases h1 : (segP l).2.2 ≠ 0
  · rw [if_pos h1]; exact ⟨rfl, rfl⟩
  · rw [if_neg h1] at h; exact absurd rfl h
theorem put_get {l : List S42} (h : (putS l).2 = 0) (m : ByteArray) : ∃ L, segP l = (L, (cntR L : Int), 0) ∧ GoodS L ∧ (putS l).1 = ⟨(bytesS (outS L (cntR L))).toArray⟩ ∧ getS ((putS l).1 ++ m) = (L.flatMap segX, 0) ∧ isL l = true ∧ isL (L.flatMap segX) = true ∧ (∀ c, lookN (L.flatMap segX) c = lookN l c) ∧ 2 * (outS L (cntR L)).length = (putS l).1.size := by
  obtain ⟨L, k, hs, hp⟩ := putS_ok h
  obtain ⟨hi, _, hk, _, hg⟩ := segP_good hs
  obtain ⟨h1, h2⟩ := segX_good hs
  refine ⟨L, by rw [hs, hk], hg, hp, ?_, hi, h1, h2, ?_⟩
  · have e : (putS l).1 ++ m = ⟨(bytesS (outS L (cntR L)) ++ m.data.toList).toArray⟩ := by
      rw [hp]
      apply ByteArray.ext
      simp
    rw [e]
    exact get_out hg _
  · rw [hp, ba_size, bytesS_length]
theorem glyph_same {l M : List S42} (h1 : isL l = true) (h2 : isL M = true) (h : ∀ c, lookN M c = lookN l c) (c : Int) : glyphOf M c = glyphOf l c := by
  unfold glyphOf
  rw [h1, h2, if_pos rfl, if_pos rfl, h c]
theorem look_out {l : List S42} (hi : isL l = true) (hm : ∀ y ∈ l, y.f1 ≤ 65535) {c : Int} (hc : c < 0 ∨ 65535 < c) : glyphOf l c = 0 := by
  obtain ⟨_, hr, ho⟩ := isL_all hi
  unfold glyphOf
  rw [hi, if_pos rfl, look_lin hr ho]
  apply lin_none
  intro y hy
  have := hm y hy
  have := ((right_iff y).1 (hr y hy)).1
  omega
end Go.Proofs.Ytgifenlfklbdgaa.P
end
section
namespace Go.Proofs.Ytgifenlfklbdgaa.Pure
open Go.RowKit Go.Proofs.Ytgifenlfklbdgaa.P Go.Proofs.YtgifenlfklbdgaaW.PrintWords Go.Proofs.YtgifenlfklbdgaaW.PrintLast
set_option linter.unusedSimpArgs false
set_option linter.unusedVariables false
theorem sonly_told (s : ByteArray) (c : Int) (K : Nat) (hK : 300000 ≤ K) : vinculumlaw09_SegmentOnly.f K s c = some true := by
  unfold vinculumlaw09_SegmentOnly.f
  by_cases h0 : (s.size : Int) > 3000
  · rw [if_pos h0]
  rw [if_neg h0]
  obtain ⟨l, e, hg⟩ : ∃ L e, getS s = (L, e) := ⟨_, _, rfl⟩
  obtain ⟨hbad, hgood, _⟩ := getS_ok hg
  have hG : segment_Get.f s = some (l, e) := by
    show some (getS s) = _
    rw [hg]
  rw [hG, Option.bind_some, parted_told K (by omega)]
  by_cases he : e = 0
  case neg =>
    rw [if_neg he, Option.bind_some, if_pos rfl, hbad he]
    rfl
  obtain ⟨hi, hm⟩ := hgood he
  have his : chart_Is.f l = some true := by unfold chart_Is.f; rw [hi]
  have hP : segment_Put.f l = some (putS l) := rfl
  rw [if_pos he, his, Option.bind_some, if_pos rfl, hP, Option.bind_some]
  by_cases h2 : (putS l).2 = 0
  case neg =>
    obtain ⟨_, hz⟩ := putS_bad h2
    have h7 : (putS l).2 = 7 := by
      rcases @segP_err l with h | ⟨_, _, ⟨_, h⟩ | ⟨h, _⟩⟩
      · rw [← hz] at h; exact absurd h h2
      · rw [hi] at h; exact absurd h (by decide)
      · rw [hz, h]
    rw [if_neg h2, Option.bind_some, if_pos rfl, h7]
    rfl
  obtain ⟨L, hs, hgs, hp, hget, _, h1, h3, h4⟩ := put_get h2 ⟨#[]⟩
  have e0 : (putS l).1 ++ (⟨#[]⟩ : ByteArray) = (putS l).1 := by apply ByteArray.ext; simp
  rw [e0] at hget
  have hG2 : segment_Get.f (putS l).1 = some (L.flatMap segX, 0) := by
    show some (getS (putS l).1) = _
    rw [hget]
  rw [if_pos h2, hG2, Option.bind_some, Option.bind_some, if_pos rfl, if_pos rfl, look_told, Option.bind_some, look_told, Option.bind_some, glyph_same hi h1 h3, if_pos rfl, Option.bind_some]
  by_cases c0 : c ≥ 0
  · rw [if_pos c0]
    by_cases c1 : c ≤ 65535
    · rw [if_pos c1]
    · rw [if_neg c1, look_out hi hm (.inr (by omega))]; rfl
  · rw [if_neg c0, look_out hi hm (.inl (by omega))]; rfl
theorem SegmentOnly : vinculumlaw09_SegmentOnly.Pure := fun s c _ _ => ⟨300000, sonly_told s c 300000 (Nat.le_refl _)⟩
end Go.Proofs.Ytgifenlfklbdgaa.Pure
end
