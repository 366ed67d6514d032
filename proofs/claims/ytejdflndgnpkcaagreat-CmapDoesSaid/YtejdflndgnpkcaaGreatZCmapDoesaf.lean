/- Words, contracts and plain facts of the proof. Each says its own condition. -/
import Derived.Test.YtejdflndgnpkcaaGreatZCmapDoesi
import Derived.Test.YtejdflndgnpkcaaGreatZCmapDoesf
import Derived.Test.YtejdflndgnpkcaaGreatZCmapDoesad
import Derived.Test.YtejdflndgnpkcaaGreatZCmapDoesae
set_option linter.unusedVariables false
set_option linter.unusedSimpArgs false
namespace Go.Proofs.YtejdflndgnpkcaaGreat.P
open Go.RowKit PW PL PM
theorem short11_told (l : List S61) (k : Nat) (hk : 200000 ≤ k) : ∃ b, r11_Short.f k l = some b ∧ (b = true → l.length ≤ 60) := by
 obtain ⟨b1, h1⟩ := short_told l k hk;obtain ⟨b2, h2, g2⟩ := short09_told l k (by omega);obtain ⟨b3, h3, _⟩ := short10_told l k (by omega);unfold r11_Short.f;rw [h1, Option.bind_some];cases b1 with
 | false => rw [if_neg Bool.false_ne_true]; exact ⟨false, rfl, fun h => absurd h (by decide)⟩
 | true =>
  rw [if_pos rfl, h2, Option.bind_some];cases b2 with
  | false => rw [if_neg Bool.false_ne_true]; exact ⟨false, rfl, fun h => absurd h (by decide)⟩
  | true => rw [if_pos rfl, h3, Option.bind_some]; exact ⟨b3, rfl, fun _ => g2 rfl⟩
def glyM (l : List S61) (c g : Int) : Int × Int := if isL l = false then (0, 1) else if lookN l c = 0 then (0, 10) else if g ≤ lookN l c then (0, 10) else (lookN l c, 0)
theorem glyph_told (l : List S61) (c g : Int) : cmap_Glyph.f l c g = some (glyM l c g) := by
 have his : chart_Is.f l = some (isL l) := rfl;unfold cmap_Glyph.f glyM;rw [his, Option.bind_some];cases h : isL l with
 | false => rw [if_neg Bool.false_ne_true, if_pos rfl]
 | true =>
  rw [if_pos rfl, if_neg (show ¬ true = false by decide), look_told, Option.bind_some];unfold glyphOf;rw [h, if_pos rfl];by_cases h0 : lookN l c = 0
  · rw [if_pos h0, if_pos h0]
  rw [if_neg h0, if_neg h0];by_cases h1 : g ≤ lookN l c
  · rw [if_pos h1, if_pos h1]
  rw [if_neg h1, if_neg h1]
def C0 : List S61 := [⟨65, 66, 3, 1⟩]
theorem c0_put : (putM C0 4).2 = 0 := by kernel_rfl
structure Grp (t : ByteArray) (f : Int) (L : List S61) : Prop where
 z : 16 ≤ t.size
 y : t.size ≤ 800000
 ff : f = 12 ∨ f = 13
 h : ∀ m : ByteArray, w2 (t ++ m) 0 = f ∧ getG (t ++ m) = (L, 0)
 j : isL L = true
theorem Grp.more {t : ByteArray} {f : Int} {L : List S61} (g : Grp t f L) (m : ByteArray) : readM (t ++ m) = (L, 0) := by
 have h1 := (g.h m).1;have h2 := g.ff;have h3 := g.z;have h4 : (t ++ m).size = t.size + m.size := ByteArray.size_append;unfold readM;rw [if_neg (by omega), if_neg (by omega), if_neg (by omega), if_pos (by omega)];exact (g.h m).2
theorem Grp.form {t : ByteArray} {f : Int} {L : List S61} (g : Grp t f L) (m : ByteArray) : isFmt (w2 (t ++ m) 0) = true := by
 rw [(g.h m).1];rcases g.ff with rfl | rfl <;> rfl
end Go.Proofs.YtejdflndgnpkcaaGreat.P
