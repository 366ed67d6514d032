/- A part of the proof of the law SegmentWraps: the words, contracts and plain facts that it needs, no more. Each says its own condition. -/
import Derived.Test.YtgifenlfklbdgaaZSegmentWrapsar
import Derived.Test.YtgifenlfklbdgaaZSegmentWrapsal
import Derived.Test.YtgifenlfklbdgaaZSegmentWrapsas
import Derived.Test.YtgifenlfklbdgaaZSegmentWrapsg
import Derived.Test.YtgifenlfklbdgaaZSegmentWrapsq
section
namespace Go.Proofs.Ytgifenlfklbdgaa.P
open Go.RowKit Go.Proofs.YtgifenlfklbdgaaW.PrintWords Go.Proofs.YtgifenlfklbdgaaW.PrintLast Go.Proofs.YtgifenlfklbdgaaW.PrintMore
set_option linter.unusedSimpArgs false
set_option linter.unusedVariables false
def P0 : List S42 := [⟨65, 70, 3, 1⟩, ⟨80, 81, 9, 0⟩]
def P1 : List S42 := [⟨65, 70, 3, 1⟩, ⟨80, 81, 9, 0⟩, ⟨65535, 65535, 0, 1⟩]
def P2 : List S42 := [⟨65, 70, 3, 1⟩, ⟨80, 80, 9, 1⟩, ⟨81, 81, 9, 1⟩, ⟨65535, 65535, 0, 1⟩]
theorem p0_seg : segP P0 = (P1, 2, 0) := by kernel_rfl
theorem p0_put : putS P0 = (⟨(bytesS (outS P1 (cntR P1))).toArray⟩, 0) := by
  unfold putS
  rw [p0_seg]
  rfl
theorem p1_flat : P1.flatMap segX = P2 := by kernel_rfl
theorem p0_get : getS (putS P0).1 = (P2, 0) := by
  obtain ⟨_, _, _, _, hg⟩ := segP_good p0_seg
  have := get_out hg []
  rw [List.append_nil] at this
  rw [p0_put, this, p1_flat]
theorem p0_size : (putS P0).1.size = 44 := by
  rw [p0_put, ba_size]
  decide +kernel
theorem p0_half : (getS ((putS P0).1.extract 0 22)).2 = 4 := by
  rw [p0_put]
  decide +kernel
theorem seg_Many_told (l : List S42) : segment_Many.f l = some (((segP l).1.length : Int), (segP l).2.1, (segP l).2.2) := by
  unfold segment_Many.f segment_segments.f
  rw [Option.bind_some]
theorem parted_told (k : Nat) (hk : 66000 ≤ k) : vinculumlaw09_parted.f k = some true := by
  have s2 : vinculumref08_Same.f k P2 P2 = some true := same_self8 P2 (by decide) k (by show 4 < k; omega)
  have e0 : (putS P0).2 = 0 := by rw [p0_put]
  have h22 : wrap64 (((putS P0).1.size : Int) / 2) = 22 := by rw [p0_size]; decide +kernel
  unfold vinculumlaw09_parted.f
  rw [Option.bind_some]
  show (segment_Put.f P0).bind _ = _
  have hP : segment_Put.f P0 = some (putS P0) := rfl
  rw [hP, Option.bind_some]
  have hG : segment_Get.f (putS P0).1 = some (P2, 0) := by
    show some (getS (putS P0).1) = _
    rw [p0_get]
  rw [hG, Option.bind_some]
  have hM : segment_Many.f P0 = some (3, 2, 0) := by rw [seg_Many_told, p0_seg]; rfl
  show (segment_Many.f P0).bind _ = _
  rw [hM, Option.bind_some, h22, if_pos (by decide), if_pos (by rw [p0_size]; decide)]
  have hH : segment_Get.f ((putS P0).1.extract 0 (22 : Int).toNat) = some (getS ((putS P0).1.extract 0 22)) := rfl
  rw [hH, Option.bind_some, if_pos e0, if_pos (by rw [p0_size]; rfl), if_pos (by rw [e0])]
  show (vinculumref08_Same.f k P2 P2).bind _ = _
  rw [s2, Option.bind_some, if_pos rfl, if_pos (by rw [e0]), if_pos (by rfl), if_pos (by rfl), p0_half]
  rfl
end Go.Proofs.Ytgifenlfklbdgaa.P
end
section
namespace Go.Proofs.Ytgifenlfklbdgaa.Pure
open Go.RowKit Go.Proofs.Ytgifenlfklbdgaa.P Go.Proofs.YtgifenlfklbdgaaW.PrintWords Go.Proofs.YtgifenlfklbdgaaW.PrintLast
set_option linter.unusedSimpArgs false
set_option linter.unusedVariables false
def wrapsL (a d : Int) : List Int := [4, 24, 0, 2, 2, 0, 0, 65535, 0, a, d, 0]
theorem wraps_fit {a d : Int} (ha : 0 ≤ a ∧ a ≤ 65535) (hd : 0 ≤ d ∧ d ≤ 65535) : ∀ v ∈ wrapsL a d, 0 ≤ v ∧ v ≤ 65535 := by
  intro v hv
  unfold wrapsL at hv
  simp only [List.mem_cons, List.not_mem_nil, or_false] at hv
  omega
theorem wraps_put {a d : Int} (ha : 0 ≤ a ∧ a ≤ 65535) (hd : 0 ≤ d ∧ d ≤ 65535) : bin_Put.f [2, 2, 2, 2, 2, 2, 2, 2, 2, 2, 2, 2] (wrapsL a d) = some (⟨(bytesS (wrapsL a d)).toArray⟩, 0) :=
  put_words (wrapsL a d) (wraps_fit ha hd) (show (12 : Nat) < 17592186044416 by decide)
theorem wraps_get {a d : Int} (ha : 0 ≤ a ∧ a ≤ 65535) (hd : 0 ≤ d ∧ d ≤ 65535) : getS ⟨(bytesS (wrapsL a d)).toArray⟩ = (nearF a 65535 d, 0) := by
  obtain ⟨s, hs⟩ : ∃ s : ByteArray, s = ⟨(bytesS (wrapsL a d)).toArray⟩ := ⟨_, rfl⟩
  have hq : ∀ (j : Nat) (v : Int), (wrapsL a d)[j]? = some v → w2 s (2 * j) = v := fun j v hv => by
    have := w2_q (wrapsL a d) [] (wraps_fit ha hd) j v hv
    rw [List.append_nil] at this
    rw [hs]; exact this
  have hsz : s.size = 24 := by rw [hs, ba_size, bytesS_length]; rfl
  have e0 : w2 s 0 = 4 := hq 0 _ rfl
  have e2 : w2 s 2 = 24 := hq 1 _ rfl
  have e6 : w2 s 6 = 2 := hq 3 _ rfl
  have e14 : w2 s 14 = 65535 := hq 7 _ rfl
  have e18 : w2 s 18 = a := hq 9 _ rfl
  have e20 : w2 s 20 = d := hq 10 _ rfl
  have e22 : w2 s 22 = 0 := hq 11 _ rfl
  have hc : cntF s = 1 := by unfold cntF; rw [e6]; rfl
  have hcut : s.extract 0 (w2 s 2).toNat = s := by
    rw [e2]
    show s.extract 0 24 = s
    rw [← hsz]
    exact ByteArray.extract_zero_size
  have hto : toF s 0 = 65535 := e14
  have hfr : fromF s 1 0 = a := e18
  have hdl : delF s 1 0 = d := e20
  have hof : offF s 1 0 = 0 := e22
  have hr : rightF s 1 = true := by
    unfold rightF
    have h1 : lastF s 1 = 65535 := hto
    rw [h1]
    show ((List.range 1).all (rightAt s 1) && true) = true
    rw [Bool.and_true]
    show (rightAt s 1 0 && true) = true
    rw [Bool.and_true]
    unfold rightAt
    rw [hto, hfr, hof, decide_eq_true ha.2, Bool.true_and, Bool.and_eq_true]
    exact ⟨decide_eq_true (by show (-1 : Int) < a; omega), rfl⟩
  have hsg : segsF s 1 1 = some (nearF a 65535 d) := by
    show (some []).bind (fun l => (segAt s 1 0).bind (fun m => some (l ++ m))) = _
    rw [Option.bind_some]
    unfold segAt segF
    rw [hto, hfr, hdl, hof, if_pos rfl, Option.bind_some]
    rfl
  rw [← hs]
  unfold getS
  rw [if_neg (by omega), if_neg (by rw [e0, e6]; decide), if_neg (by rw [e2, hsz]; decide), if_neg (by rw [e2, hc]; decide), hcut, hc, hr, if_neg (by decide), hsg]
theorem near_len (a d : Int) : (nearF a 65535 d).length ≤ 2 := by
  unfold nearF
  split <;> simp
theorem near_isL {a d : Int} (ha : 0 ≤ a ∧ a ≤ 65535) : isL (nearF a 65535 d) = true := by
  obtain ⟨h1, h2⟩ := @near_ok a 65535 d ha.1 ha.2 (by decide)
  exact isL_mk (by have := near_len a d; omega) (fun y hy => (h1 y hy).1) h2
theorem near_lin {a d c : Int} (ha : 0 ≤ a ∧ a ≤ 65535) (hd : 0 ≤ d ∧ d ≤ 65535) : linN (nearF a 65535 d) c = if a ≤ c ∧ c ≤ 65535 then (c + d) % 65536 else 0 := by
  unfold nearF
  split
  · rename_i h
    simp only [linN]
    split <;> omega
  · rename_i h
    simp only [linN]
    repeat' split
    all_goals omega
theorem tmod_nn {x : Int} (h : 0 ≤ x) : Int.tmod x 65536 = x % 65536 := by
  rw [Int.tmod_eq_emod_of_nonneg h]
theorem swraps_told (a d c : Int) (K : Nat) (hK : 300000 ≤ K) : vinculumlaw09_SegmentWraps.f (K + 3) a d c = some true := by
  have hbad : vinculumlaw09_SegmentWraps.j0 (K + 3) a d c true = some true := by
    simp only [vinculumlaw09_SegmentWraps.j0]
    rw [if_pos trivial, parted_told (K + 2) (by omega)]
    rfl
  unfold vinculumlaw09_SegmentWraps.f
  by_cases h1 : a < 0
  · rw [if_pos h1, hbad]
  rw [if_neg h1]
  by_cases h2 : a > 65535
  · rw [if_pos h2, hbad]
  rw [if_neg h2]
  by_cases h3 : d < 0
  · rw [if_pos h3, hbad]
  rw [if_neg h3]
  by_cases h4 : d > 65535
  · rw [decide_eq_true h4, hbad]
  rw [decide_eq_false h4]
  have ha : 0 ≤ a ∧ a ≤ 65535 := by omega
  have hd : 0 ≤ d ∧ d ≤ 65535 := by omega
  have hG : segment_Get.f ⟨(bytesS (wrapsL a d)).toArray⟩ = some (nearF a 65535 d, 0) := by
    show some (getS _) = _
    rw [wraps_get ha hd]
  have hi := near_isL (d := d) ha
  obtain ⟨_, hr, ho⟩ := isL_all hi
  have hl := near_len a d
  have hg : glyphOf (nearF a 65535 d) c = if a ≤ c ∧ c ≤ 65535 then (c + d) % 65536 else 0 := by
    unfold glyphOf
    rw [hi, if_pos rfl, look_lin hr ho, near_lin ha hd]
  simp only [vinculumlaw09_SegmentWraps.j0]
  rw [if_neg Bool.false_ne_true]
  show (bin_Put.f [2, 2, 2, 2, 2, 2, 2, 2, 2, 2, 2, 2] (wrapsL a d)).bind _ = _
  rw [wraps_put ha hd, Option.bind_some, if_pos rfl, hG, Option.bind_some, if_pos rfl, decide_eq_false (show ¬ ((nearF a 65535 d).length : Int) > 2 by omega)]
  simp only [vinculumlaw09_SegmentWraps.j1]
  rw [if_neg Bool.false_ne_true]
  have hj2 : ∀ q : Bool, (q = true ↔ a ≤ c ∧ c ≤ 65535) → vinculumlaw09_SegmentWraps.j2 (K + 1) d c (nearF a 65535 d) 0 q = some true := fun q hq => by
    simp only [vinculumlaw09_SegmentWraps.j2]
    rw [parted_told K (by omega), look_told, hg]
    cases q with
    | true =>
      have hq := hq.1 rfl
      have hw : wrap64 (c + d) = c + d := by unfold wrap64; omega
      rw [if_pos rfl, Option.bind_some, if_pos rfl, Option.bind_some, if_pos hq, hw, tmod_nn (by omega), beq_self_eq_true]
    | false =>
      have hq : ¬ (a ≤ c ∧ c ≤ 65535) := fun h => absurd (hq.2 h) (by decide)
      rw [if_neg Bool.false_ne_true, Option.bind_some, if_pos rfl, Option.bind_some, if_neg hq]
      rfl
  by_cases h5 : c ≥ a
  · rw [if_pos h5]
    refine hj2 _ ?_
    rw [decide_eq_true_eq]
    exact ⟨fun h => ⟨h5, h⟩, fun h => h.2⟩
  · rw [if_neg h5]
    refine hj2 false ?_
    exact ⟨fun h => absurd h (by decide), fun h => absurd h.1 h5⟩
theorem SegmentWraps : vinculumlaw09_SegmentWraps.Pure := fun a d c _ _ _ => ⟨300003, swraps_told a d c 300000 (Nat.le_refl _)⟩
end Go.Proofs.Ytgifenlfklbdgaa.Pure
end
