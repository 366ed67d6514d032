/- A part of the proof of the law GroupBack: the words, contracts and plain facts that it needs, no more. Each says its own condition. -/
import Derived.Test.YtgifenlfklbdgaaZGroupBackac
import Derived.Test.YtgifenlfklbdgaaZGroupBackae
import Derived.Test.YtgifenlfklbdgaaZGroupBackaf
import Derived.Test.YtgifenlfklbdgaaZGroupBackab
import Derived.Test.YtgifenlfklbdgaaZGroupBackaa
import Derived.Test.YtgifenlfklbdgaaZGroupBackg
section
namespace Go.Proofs.Ytgifenlfklbdgaa.P
open Go.RowKit Go.Proofs.YtgifenlfklbdgaaW.PrintWords Go.Proofs.YtgifenlfklbdgaaW.PrintLast Go.Proofs.YtgifenlfklbdgaaW.PrintMore
set_option linter.unusedSimpArgs false
set_option linter.unusedVariables false
def M0 : List S42 := [⟨70000, 70001, 9, 0⟩]
def M1 : List S42 := [⟨70000, 70000, 9, 1⟩, ⟨70001, 70001, 9, 1⟩]
theorem m0_flat : splitN M0 0 = (M0, 0) := by kernel_rfl
theorem m0_rise : splitN M0 1 = (M1, 0) := by kernel_rfl
theorem m0_put13 : putG M0 13 = (⟨(headB 13 1 ++ spansB M0).toArray⟩, 0) := by
  unfold putG
  rw [if_neg (by decide), show (13 : Int) - 13 = 0 from rfl, m0_flat, if_neg (by decide)]
  rfl
theorem m0_put12 : putG M0 12 = (⟨(headB 12 2 ++ spansB M1).toArray⟩, 0) := by
  unfold putG
  rw [if_neg (by decide), show (13 : Int) - 12 = 1 from rfl, m0_rise, if_neg (by decide)]
  rfl
theorem grouped_told (k : Nat) (hk : 66000 ≤ k) : vinculumlaw10_grouped.f k = some true := by
  have g1 : getG (putG M0 13).1 = (M0, 0) := by
    rw [m0_put13]
    have := get_putG (L := M0) (f := 13) (by decide +kernel) (.inr rfl) (by decide +kernel) []
    rwa [List.append_nil] at this
  have g2 : getG (putG M0 12).1 = (M1, 0) := by
    rw [m0_put12]
    have := get_putG (L := M1) (f := 12) (by decide +kernel) (.inl rfl) (by decide +kernel) []
    rwa [List.append_nil] at this
  have z1 : (putG M0 13).1.size = 28 := by rw [m0_put13, ba_size, List.length_append, headB_length, spansB_length]; rfl
  have z2 : (putG M0 12).1.size = 40 := by rw [m0_put12, ba_size, List.length_append, headB_length, spansB_length]; rfl
  have e1 : (putG M0 13).2 = 0 := by rw [m0_put13]
  have e2 : (putG M0 12).2 = 0 := by rw [m0_put12]
  have e3 : (putG M0 4).2 = 1 := by unfold putG; rw [if_pos (by decide)]
  have hfr : vinculumlaw10_front.f (putG M0 13).1 20 = some ((putG M0 13).1.extract 0 20) := by
    unfold vinculumlaw10_front.f
    rw [if_neg (by decide), if_neg (by rw [z1]; decide), if_pos (by decide), if_pos (by rw [z1]; decide)]
    rfl
  have hsz : ((putG M0 13).1.extract 0 20).size = 20 := by rw [ByteArray.size_extract, z1]; rfl
  have hcut : (getG ((putG M0 13).1.extract 0 20)).2 = 4 := by
    rw [m0_put13]
    decide +kernel
  have s1 : vinculumref08_Same.f k M0 M0 = some true := same_self8 M0 (by decide) k (by show 1 < k; omega)
  have s2 : vinculumref08_Same.f k M1 M1 = some true := same_self8 M1 (by decide) k (by show 2 < k; omega)
  unfold vinculumlaw10_grouped.f
  rw [Option.bind_some]
  show (group_Put.f M0 13).bind _ = _
  unfold group_Put.f group_Get.f
  simp only [Option.bind_some]
  show (vinculumlaw10_front.f (putG M0 13).1 20).bind _ = _
  rw [hfr, Option.bind_some]
  try simp only [Option.bind_some]
  rw [if_pos e1, if_pos (by rw [z1]; rfl), if_pos (by rw [g1, e1])]
  show (vinculumref08_Same.f k M0 (getG (putG M0 13).1).1).bind _ = _
  rw [g1, s1, Option.bind_some, if_pos rfl]
  show (if (putG M0 12).2 = (putG M0 13).2 then _ else _) = _
  rw [if_pos (by rw [e1, e2])]
  show (if ((putG M0 12).1.size : Int) = 40 then _ else _) = _
  rw [if_pos (by rw [z2]; rfl)]
  show (if (getG (putG M0 12).1).2 = (putG M0 13).2 then _ else _) = _
  rw [if_pos (by rw [g2, e1])]
  show (vinculumref08_Same.f k (getG (putG M0 12).1).1 M1).bind _ = _
  rw [g2, s2, Option.bind_some, if_pos rfl]
  show (if (putG M0 4).2 = 1 then _ else _) = _
  rw [if_pos e3]
  show some ((getG ((putG M0 13).1.extract 0 20)).2 == 4) = some true
  rw [hcut]
  rfl
end Go.Proofs.Ytgifenlfklbdgaa.P
end
section
namespace Go.Proofs.Ytgifenlfklbdgaa.P
open Go.RowKit Go.Proofs.YtgifenlfklbdgaaW.PrintWords Go.Proofs.YtgifenlfklbdgaaW.PrintLast Go.Proofs.YtgifenlfklbdgaaW.PrintMore
set_option linter.unusedSimpArgs false
set_option linter.unusedVariables false
theorem short10_loop (l : List S42) (hl : l.length ≤ 60) (d : Nat) : ∀ k i, l.length - i = d → i ≤ l.length → 2 * d + 3 ≤ k → ∃ b, vinculumref10_Short.l0 k l (i : Int) = some b := by
  induction d with
  | zero =>
    intro k i hd hi hk
    obtain ⟨k, rfl⟩ : ∃ n, k = n + 2 := ⟨k - 2, by omega⟩
    simp only [vinculumref10_Short.l0]
    rw [if_neg (by omega)]
    simp only [vinculumref10_Short.j1]
    exact ⟨_, rfl⟩
  | succ d ih =>
    intro k i hd hi hk
    obtain ⟨k, rfl⟩ : ∃ n, k = n + 2 := ⟨k - 2, by omega⟩
    have hw : wrap64 ((i : Int) + 1) = ((i + 1 : Nat) : Int) := by unfold wrap64; omega
    obtain ⟨b, hb⟩ := ih k (i + 1) (by omega) (by omega) (by omega)
    simp only [vinculumref10_Short.l0]
    rw [if_pos (by omega), decide_eq_true (show (l.length : Int) ≤ 60 by omega)]
    simp only [vinculumref10_Short.j1]
    rw [if_pos trivial, if_pos (by omega), if_pos (by omega), hw, hb]
    split
    · split
      · exact ⟨_, rfl⟩
      · exact ⟨_, rfl⟩
    · exact ⟨_, rfl⟩
theorem short10_told (l : List S42) (k : Nat) (hk : 200 ≤ k) : ∃ b, vinculumref10_Short.f k l = some b ∧ (b = true → l.length ≤ 60) := by
  by_cases hl : l.length ≤ 60
  · obtain ⟨b, hb⟩ := short10_loop l hl l.length k 0 rfl (by omega) (by omega)
    exact ⟨b, hb, fun _ => hl⟩
  · refine ⟨false, ?_, fun h => absurd h (by decide)⟩
    obtain ⟨k, rfl⟩ : ∃ n, k = n + 2 := ⟨k - 2, by omega⟩
    unfold vinculumref10_Short.f
    simp only [vinculumref10_Short.l0]
    rw [if_pos (by omega), decide_eq_false (show ¬ (l.length : Int) ≤ 60 by omega)]
    simp only [vinculumref10_Short.j1]
    rw [if_neg Bool.false_ne_true, decide_eq_false (show ¬ (l.length : Int) ≤ 60 by omega)]
end Go.Proofs.Ytgifenlfklbdgaa.P
end
section
namespace Go.Proofs.Ytgifenlfklbdgaa.Pure
open Go.RowKit Go.Proofs.Ytgifenlfklbdgaa.P Go.Proofs.YtgifenlfklbdgaaW.PrintWords Go.Proofs.YtgifenlfklbdgaaW.PrintLast
set_option linter.unusedSimpArgs false
set_option linter.unusedVariables false
theorem gback_told (l : List S42) (f c : Int) (K : Nat) (hK : 300000 ≤ K) : vinculumlaw10_GroupBack.f K l f c = some true := by
  obtain ⟨b, hb, _⟩ := short10_told l K (by omega)
  unfold vinculumlaw10_GroupBack.f
  rw [hb, Option.bind_some]
  cases b with
  | false => rw [if_neg Bool.false_ne_true]
  | true =>
    rw [if_pos rfl]
    show ((some (putG l f)).bind _) = _
    rw [Option.bind_some]
    by_cases h0 : (putG l f).2 = 0
    case neg =>
      have hz : (putG l f).1 = ⟨#[]⟩ := by
        unfold putG at h0 ⊢
        split
        · rfl
        · rename_i h1
          rw [if_neg h1] at h0
          split
          · rfl
          · rename_i h2
            rw [if_neg h2] at h0
            exact absurd rfl h0
      rw [if_neg h0, grouped_told K (by omega), Option.bind_some, if_pos rfl, hz]
      decide +kernel
    rw [if_pos h0]
    obtain ⟨hf, L, hs, hp⟩ : (f = 12 ∨ f = 13) ∧ ∃ L, splitN l (13 - f) = (L, 0) ∧ (putG l f).1 = ⟨(headB f (L.length : Int) ++ spansB L).toArray⟩ := by
      unfold putG at h0 ⊢
      by_cases h1 : f ≠ 12 ∧ f ≠ 13
      · rw [if_pos h1] at h0; exact absurd h0 (by decide)
      rw [if_neg h1] at h0 ⊢
      by_cases h2 : (splitN l (13 - f)).2 ≠ 0
      · rw [if_pos h2] at h0; exact absurd h0 h2
      rw [if_neg h2]
      have h3 : (splitN l (13 - f)).2 = 0 := Decidable.of_not_not h2
      exact ⟨by omega, (splitN l (13 - f)).1, by rw [← h3], rfl⟩
    obtain ⟨hi, hst, hL, hstep, hlk⟩ := split_good hs
    have hlen := (isL_all hL).1
    have hget : getG ((putG l f).1 ++ (⟨#[109, 111, 114, 101]⟩ : ByteArray)) = (L, 0) := by
      have e : (putG l f).1 ++ (⟨#[109, 111, 114, 101]⟩ : ByteArray) = ⟨(headB f (L.length : Int) ++ spansB L ++ [109, 111, 114, 101]).toArray⟩ := by
        rw [hp]
        apply ByteArray.ext
        simp
      rw [e]
      exact get_putG hL hf hstep _
    have hsz : (putG l f).1.size ≤ 800000 := by
      rw [hp, ba_size, List.length_append, headB_length, spansB_length]; omega
    have hw : wrap64 (13 - f) = 13 - f := by unfold wrap64; omega
    rw [if_pos (by omega)]
    show ((some (getG ((putG l f).1 ++ (⟨#[109, 111, 114, 101]⟩ : ByteArray)))).bind _) = _
    rw [Option.bind_some, hget, hw]
    show ((some (splitN l (13 - f))).bind _) = _
    rw [Option.bind_some, hs, grouped_told K (by omega), Option.bind_some, if_pos rfl]
    show (if (0 : Int) = 0 then _ else _) = _
    rw [if_pos rfl]
    show (if (0 : Int) = 0 then _ else _) = _
    rw [if_pos rfl]
    show (vinculumref08_Same.f K L L).bind _ = _
    rw [same_self8 L (by omega) K (by omega), Option.bind_some, if_pos rfl]
    show (chart_Look.f L c).bind _ = _
    rw [look_told, Option.bind_some, look_told, Option.bind_some]
    unfold glyphOf
    rw [hL, hi, if_pos rfl, if_pos rfl, hlk c]
    simp
end Go.Proofs.Ytgifenlfklbdgaa.Pure
end
