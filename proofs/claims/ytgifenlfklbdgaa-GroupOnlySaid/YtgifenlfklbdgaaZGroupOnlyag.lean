/- A part of the proof of the law GroupOnly: the words, contracts and plain facts that it needs, no more. Each says its own condition. -/
import Derived.Test.YtgifenlfklbdgaaZGroupOnlyac
import Derived.Test.YtgifenlfklbdgaaZGroupOnlyae
import Derived.Test.YtgifenlfklbdgaaZGroupOnlyaf
import Derived.Test.YtgifenlfklbdgaaZGroupOnlyab
import Derived.Test.YtgifenlfklbdgaaZGroupOnlyaa
import Derived.Test.YtgifenlfklbdgaaZGroupOnlyg
section
namespace Go.Proofs.Ytgifenlfklbdgaa.P
open Go.RowKit Go.Proofs.YtgifenlfklbdgaaW.PrintWords Go.Proofs.YtgifenlfklbdgaaW.PrintLast Go.Proofs.YtgifenlfklbdgaaW.PrintMore
set_option linter.unusedSimpArgs false
set_option linter.unusedVariables false
def M0 : List S42 := [⟨70000, 70001, 9, 0⟩]
def M1 : List S42 := [⟨70000, 70000, 9, 1⟩, ⟨70001, 70001, 9, 1⟩]
theorem m0_flat : splitN M0 0 = (M0, 0) := by kernel_rfl
theorem m0_rise : splitN M0 1 = (M1, 0) := by kernel_rfl
theorem m0_put13 : putG M0 13 = (⟨(headB 13 1 ++ spansB M0).toArray⟩, 0) := by
  unfold putG
  rw [if_neg (by decide), show (13 : Int) - 13 = 0 from rfl, m0_flat, if_neg (by decide)]
  rfl
theorem m0_put12 : putG M0 12 = (⟨(headB 12 2 ++ spansB M1).toArray⟩, 0) := by
  unfold putG
  rw [if_neg (by decide), show (13 : Int) - 12 = 1 from rfl, m0_rise, if_neg (by decide)]
  rfl
theorem grouped_told (k : Nat) (hk : 66000 ≤ k) : vinculumlaw10_grouped.f k = some true := by
  have g1 : getG (putG M0 13).1 = (M0, 0) := by
    rw [m0_put13]
    have := get_putG (L := M0) (f := 13) (by decide +kernel) (.inr rfl) (by decide +kernel) []
    rwa [List.append_nil] at this
  have g2 : getG (putG M0 12).1 = (M1, 0) := by
    rw [m0_put12]
    have := get_putG (L := M1) (f := 12) (by decide +kernel) (.inl rfl) (by decide +kernel) []
    rwa [List.append_nil] at this
  have z1 : (putG M0 13).1.size = 28 := by rw [m0_put13, ba_size, List.length_append, headB_length, spansB_length]; rfl
  have z2 : (putG M0 12).1.size = 40 := by rw [m0_put12, ba_size, List.length_append, headB_length, spansB_length]; rfl
  have e1 : (putG M0 13).2 = 0 := by rw [m0_put13]
  have e2 : (putG M0 12).2 = 0 := by rw [m0_put12]
  have e3 : (putG M0 4).2 = 1 := by unfold putG; rw [if_pos (by decide)]
  have hfr : vinculumlaw10_front.f (putG M0 13).1 20 = some ((putG M0 13).1.extract 0 20) := by
    unfold vinculumlaw10_front.f
    rw [if_neg (by decide), if_neg (by rw [z1]; decide), if_pos (by decide), if_pos (by rw [z1]; decide)]
    rfl
  have hsz : ((putG M0 13).1.extract 0 20).size = 20 := by rw [ByteArray.size_extract, z1]; rfl
  have hcut : (getG ((putG M0 13).1.extract 0 20)).2 = 4 := by
    rw [m0_put13]
    decide +kernel
  have s1 : vinculumref08_Same.f k M0 M0 = some true := same_self8 M0 (by decide) k (by show 1 < k; omega)
  have s2 : vinculumref08_Same.f k M1 M1 = some true := same_self8 M1 (by decide) k (by show 2 < k; omega)
  unfold vinculumlaw10_grouped.f
  rw [Option.bind_some]
  show (group_Put.f M0 13).bind _ = _
  unfold group_Put.f group_Get.f
  simp only [Option.bind_some]
  show (vinculumlaw10_front.f (putG M0 13).1 20).bind _ = _
  rw [hfr, Option.bind_some]
  try simp only [Option.bind_some]
  rw [if_pos e1, if_pos (by rw [z1]; rfl), if_pos (by rw [g1, e1])]
  show (vinculumref08_Same.f k M0 (getG (putG M0 13).1).1).bind _ = _
  rw [g1, s1, Option.bind_some, if_pos rfl]
  show (if (putG M0 12).2 = (putG M0 13).2 then _ else _) = _
  rw [if_pos (by rw [e1, e2])]
  show (if ((putG M0 12).1.size : Int) = 40 then _ else _) = _
  rw [if_pos (by rw [z2]; rfl)]
  show (if (getG (putG M0 12).1).2 = (putG M0 13).2 then _ else _) = _
  rw [if_pos (by rw [g2, e1])]
  show (vinculumref08_Same.f k (getG (putG M0 12).1).1 M1).bind _ = _
  rw [g2, s2, Option.bind_some, if_pos rfl]
  show (if (putG M0 4).2 = 1 then _ else _) = _
  rw [if_pos e3]
  show some ((getG ((putG M0 13).1.extract 0 20)).2 == 4) = some true
  rw [hcut]
  rfl
theorem getG_ok {s : ByteArray} {L : List S42} {e : Int} (h : getG s = (L, e)) : L.length ≤ 65536 ∧ (e ≠ 0 → L = []) := by
  unfold getG at h
  have hb := w4_bd s 12
  split at h
  · obtain ⟨rfl, rfl⟩ := Prod.mk.inj h; exact ⟨by decide, fun _ => rfl⟩
  split at h
  · obtain ⟨rfl, rfl⟩ := Prod.mk.inj h; exact ⟨by decide, fun _ => rfl⟩
  split at h
  · obtain ⟨rfl, rfl⟩ := Prod.mk.inj h; exact ⟨by decide, fun _ => rfl⟩
  split at h
  · obtain ⟨rfl, rfl⟩ := Prod.mk.inj h; exact ⟨by decide, fun _ => rfl⟩
  split at h
  · obtain ⟨rfl, rfl⟩ := Prod.mk.inj h; exact ⟨by decide, fun _ => rfl⟩
  split at h
  · rename_i hi
    obtain ⟨rfl, rfl⟩ := Prod.mk.inj h
    exact ⟨(isL_all hi).1, fun h => absurd rfl h⟩
  · obtain ⟨rfl, rfl⟩ := Prod.mk.inj h; exact ⟨by decide, fun _ => rfl⟩
end Go.Proofs.Ytgifenlfklbdgaa.P
end
section
namespace Go.Proofs.Ytgifenlfklbdgaa.Pure
open Go.RowKit Go.Proofs.Ytgifenlfklbdgaa.P Go.Proofs.YtgifenlfklbdgaaW.PrintWords Go.Proofs.YtgifenlfklbdgaaW.PrintLast
set_option linter.unusedSimpArgs false
set_option linter.unusedVariables false
theorem ext_app (s m : ByteArray) (p q : Nat) (h : q ≤ s.size) : (s ++ m).extract p q = s.extract p q := by
  apply ByteArray.ext
  have hs : q ≤ s.data.size := h
  rw [ByteArray.data_extract, ByteArray.data_extract, ByteArray.data_append, Array.extract_append]
  rw [show q - s.data.size = 0 by omega]
  simp
theorem w2_app (s m : ByteArray) (p : Nat) (h : p + 2 ≤ s.size) : w2 (s ++ m) p = w2 s p := by
  have h1 := one_w2 s p h 16 (Nat.le_refl _)
  have h2 := one_w2 (s ++ m) p (by rw [ByteArray.size_append]; omega) 16 (Nat.le_refl _)
  rw [ext_app s m _ _ h, h1] at h2
  exact (Option.some.inj h2).symm
theorem w4_app (s m : ByteArray) (p : Nat) (h : p + 4 ≤ s.size) : w4 (s ++ m) p = w4 s p := by
  have h1 := one_at s p (s := 4) (by decide) 4 rfl h 16 (Nat.le_refl _)
  have h2 := one_at (s ++ m) p (s := 4) (by decide) 4 rfl (by rw [ByteArray.size_append]; omega) 16 (Nat.le_refl _)
  rw [ext_app s m _ _ h, h1] at h2
  exact (Option.some.inj h2).symm
theorem spansG_app (s m : ByteArray) (n : Nat) (st : Int) (h : 16 + 12 * n ≤ s.size) : spansG (s ++ m) n st = spansG s n st := by
  unfold spansG
  apply List.map_congr_left
  intro i hi
  have := List.mem_range.1 hi
  rw [w4_app s m _ (by omega), w4_app s m _ (by omega), w4_app s m _ (by omega)]
theorem getG_cases (s m : ByteArray) (h : (getG s).2 ≠ 4) : getG (s ++ m) = getG s := by
  have hz : (s ++ m).size = s.size + m.size := ByteArray.size_append
  by_cases h16 : s.size < 16
  · exact absurd (by unfold getG; rw [if_pos h16]) h
  have e0 := w2_app s m 0 (by omega)
  have e4 := w4_app s m 4 (by omega)
  have e12 := w4_app s m 12 (by omega)
  have hb := w4_bd s 12
  unfold getG at h ⊢
  rw [if_neg h16] at h ⊢
  rw [if_neg (by omega), e0, e4, e12]
  by_cases h1 : w2 s 0 ≠ 12 ∧ w2 s 0 ≠ 13
  · rw [if_pos h1, if_pos h1]
  rw [if_neg h1] at h ⊢
  rw [if_neg h1]
  by_cases h2 : 65536 < w4 s 12
  · rw [if_pos h2, if_pos h2]
  rw [if_neg h2] at h ⊢
  rw [if_neg h2]
  by_cases h3 : w4 s 4 ≠ 16 + 12 * w4 s 12
  · rw [if_pos h3, if_pos h3]
  rw [if_neg h3] at h ⊢
  rw [if_neg h3]
  by_cases h4 : (s.size : Int) < w4 s 4
  · rw [if_pos h4] at h; exact absurd rfl h
  rw [if_neg h4] at h ⊢
  rw [if_neg (by omega), spansG_app s m _ _ (by omega)]
theorem getG_good {s : ByteArray} {L : List S42} (h : getG s = (L, 0)) : isL L = true ∧ (∃ st : Int, (st = 0 ∨ st = 1) ∧ ∀ y ∈ L, y.f3 = st) ∧ 16 + 12 * L.length ≤ s.size := by
  have hb := w4_bd s 12
  unfold getG at h
  split at h
  · exact absurd (Prod.mk.inj h).2 (by decide)
  split at h
  · exact absurd (Prod.mk.inj h).2 (by decide)
  split at h
  · exact absurd (Prod.mk.inj h).2 (by decide)
  split at h
  · exact absurd (Prod.mk.inj h).2 (by decide)
  split at h
  · exact absurd (Prod.mk.inj h).2 (by decide)
  rename_i n1 n2 n3 n4 n5
  split at h
  · rename_i hi
    obtain ⟨rfl, _⟩ := Prod.mk.inj h
    refine ⟨hi, ⟨13 - w2 s 0, by omega, fun y hy => ?_⟩, ?_⟩
    · unfold spansG at hy
      obtain ⟨i, _, rfl⟩ := List.mem_map.1 hy
      rfl
    · have : (spansG s (w4 s 12).toNat (13 - w2 s 0)).length = (w4 s 12).toNat := by simp [spansG]
      rw [this]; omega
  · exact absurd (Prod.mk.inj h).2 (by decide)
theorem split_short {st : Int} : ∀ (L : List S42), (∀ y ∈ L, y.f3 = st) → (splitL L st).length ≤ L.length
  | [], _ => Nat.le_refl _
  | x :: r, h => by
    have ih := split_short r (fun y hy => h y (List.mem_cons_of_mem _ hy))
    have e : splitL (x :: r) st = partsP x st ++ splitL r st := by unfold splitL; rw [List.flatMap_cons]
    have hp : (partsP x st).length ≤ 1 := by
      unfold partsP
      rw [if_pos (.inl (h x List.mem_cons_self))]
      split <;> simp
    rw [e, List.length_append, List.length_cons]; omega
theorem gonly_put (s : ByteArray) (c : Int) (L : List S42) (f : Int) (hf : f = 12 ∨ f = 13) (hi : isL L = true) (hst : ∀ y ∈ L, y.f3 = 13 - f) (hs : 16 + 12 * L.length ≤ s.size) (k : Nat) (hk : 100000 ≤ k) : vinculumlaw10_GroupOnly.j2 (k + 1) s c L f = some true := by
  have hlen := (isL_all hi).1
  have hsh := split_short L hst
  have hsp : splitN L (13 - f) = (splitL L (13 - f), 0) := by
    unfold splitN
    rw [if_neg (show ¬ (isL L = false ∨ 13 - f < 0 ∨ 1 < 13 - f) by rw [hi]; rintro (h | h | h); exact absurd h (by decide); omega; omega), if_pos (by omega)]
  obtain ⟨_, _, hM, hstep, hlk⟩ := split_good hsp
  obtain ⟨M, hm⟩ : ∃ M, M = splitL L (13 - f) := ⟨_, rfl⟩
  rw [← hm] at hsp hM hstep hlk hsh
  have hput : putG L f = (⟨(headB f (M.length : Int) ++ spansB M).toArray⟩, 0) := by
    unfold putG
    rw [if_neg (show ¬ (f ≠ 12 ∧ f ≠ 13) by omega), hsp, if_neg (show ¬ ((0 : Int) ≠ 0) by decide)]
  have hget : getG (⟨(headB f (M.length : Int) ++ spansB M).toArray⟩ : ByteArray) = (M, 0) := by
    have := get_putG hM hf hstep []
    rwa [List.append_nil] at this
  have hsz : (⟨(headB f (M.length : Int) ++ spansB M).toArray⟩ : ByteArray).size = 16 + 12 * M.length := by rw [ba_size, List.length_append, headB_length, spansB_length]
  simp only [vinculumlaw10_GroupOnly.j2]
  unfold group_Put.f group_Get.f
  simp only [Option.bind_some]
  rw [grouped_told k (by omega), hput]
  simp only [Option.bind_some]
  rw [hget]
  dsimp only
  rw [if_pos trivial, if_pos trivial, if_pos (show (0 : Int) = 0 from rfl), if_pos (by rw [hsz]; omega), look_told, look_told]
  simp only [Option.bind_some]
  unfold glyphOf
  rw [hM, hi, if_pos rfl, if_pos rfl, hlk c]
  simp
theorem gonly_told (s : ByteArray) (c : Int) (K : Nat) (hK : 300000 ≤ K) : vinculumlaw10_GroupOnly.f (K + 3) s c = some true := by
  unfold vinculumlaw10_GroupOnly.f
  by_cases h0 : (s.size : Int) > 3000
  · rw [if_pos h0]
  rw [if_neg h0]
  obtain ⟨L, e, hg⟩ : ∃ L e, getG s = (L, e) := ⟨_, _, rfl⟩
  obtain ⟨hlen, hbad⟩ := getG_ok hg
  show ((some (getG s)).bind _) = _
  rw [Option.bind_some, if_pos (by omega)]
  show ((some (getG (s ++ (⟨#[0, 1]⟩ : ByteArray)))).bind _) = _
  rw [Option.bind_some]
  by_cases he : e = 0
  · subst he
    obtain ⟨hi, ⟨st, hst, hall⟩, hsz⟩ := getG_good hg
    have hx := getG_cases s ⟨#[0, 1]⟩ (by rw [hg]; show (0 : Int) ≠ 4; decide)
    rw [hx, hg]
    show (if (0 : Int) = 0 then _ else _) = _
    rw [if_pos rfl]
    show (if (0 : Int) = 0 then _ else _) = _
    rw [if_pos rfl]
    show (vinculumref08_Same.f (K + 3) L L).bind _ = _
    rw [same_self8 L (by omega) (K + 3) (by omega), Option.bind_some, if_pos rfl]
    have his : chart_Is.f L = some true := by unfold chart_Is.f; rw [hi]
    show (chart_Is.f L).bind _ = _
    rw [his, Option.bind_some]
    simp only [vinculumlaw10_GroupOnly.j0, Bool.not_true]
    rw [if_neg Bool.false_ne_true]
    by_cases hl : (L.length : Int) > 0
    · rw [if_pos hl, if_pos (by omega)]
      simp only [vinculumlaw10_GroupOnly.j1]
      have h0 : rd_T42 L 0 = L[0]'(by omega) := rd_get L 0 (by omega)
      have hf3 := hall _ (List.getElem_mem (show 0 < L.length by omega))
      rw [h0, hf3]
      rcases hst with h | h
      · rw [h, if_pos (by decide)]
        exact gonly_put s c L 13 (.inr rfl) hi (fun y hy => by rw [hall y hy, h]; rfl) hsz K (by omega)
      · rw [h, if_neg (by decide)]
        exact gonly_put s c L 12 (.inl rfl) hi (fun y hy => by rw [hall y hy, h]; rfl) hsz K (by omega)
    · rw [if_neg hl]
      simp only [vinculumlaw10_GroupOnly.j1]
      rw [if_neg Bool.false_ne_true]
      have hnil : L = [] := List.length_eq_zero_iff.1 (by omega)
      exact gonly_put s c L 12 (.inl rfl) hi (fun y hy => by rw [hnil] at hy; exact absurd hy (by simp)) hsz K (by omega)
  · have hL := hbad he
    rw [hg]
    show (if e = 0 then _ else _) = _
    rw [if_neg he, grouped_told (K + 3) (by omega), Option.bind_some, if_pos rfl]
    show (if (L.length : Int) = 0 then _ else _) = _
    rw [if_pos (by rw [hL]; rfl)]
    show (if (getG (s ++ (⟨#[0, 1]⟩ : ByteArray))).2 = e then _ else _) = _
    by_cases h4 : e = 4
    · split
      · rfl
      · show some (e == 4) = _
        rw [h4]; rfl
    · have hx := getG_cases s ⟨#[0, 1]⟩ (by rw [hg]; exact h4)
      rw [if_pos (by rw [hx, hg])]
theorem GroupOnly : vinculumlaw10_GroupOnly.Pure := fun s c _ _ => ⟨300003, gonly_told s c 300000 (Nat.le_refl _)⟩
end Go.Proofs.Ytgifenlfklbdgaa.Pure
end
