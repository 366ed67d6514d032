/- Words, contracts and plain facts of the proof. Each says its own condition. -/
import Derived.Test.YtejdflndgnpkcaaGreatZCmapDoesf
import Derived.Test.YtejdflndgnpkcaaGreatZCmapDoesaf
import Derived.Test.YtejdflndgnpkcaaGreatZCmapDoesag
import Derived.Test.YtejdflndgnpkcaaGreatZCmapDoesae
import Derived.Test.YtejdflndgnpkcaaGreatZCmapDoesq
import Derived.Test.YtejdflndgnpkcaaGreatZCmapDoese
import Derived.Test.YtejdflndgnpkcaaGreatZCmapDoest
set_option linter.unusedVariables false
set_option maxRecDepth 100000
set_option linter.unusedSimpArgs false
set_option maxHeartbeats 16000000
section
namespace Go.Proofs.YtejdflndgnpkcaaGreat.P
open Go.RowKit PW PL PM
theorem nin_row : ∀ i : Fin 9, (rd_L3 ninL ((i.1 : Nat) : Int)).length = 2 ∧ rd (rd_L3 ninL ((i.1 : Nat) : Int)) 0 = (atK ninE i.1).f0 ∧ rd (rd_L3 ninL ((i.1 : Nat) : Int)) 1 = (atK ninE i.1).f1 := by decide
theorem rbest_step (k i : Nat) (p q : Int) (hi : i < 9) : r11_Best.l0 (k + 1) p q ninL (i : Int) = if p = (atK ninE i).f0 ∧ q = (atK ninE i).f1 then some (((i + 1 : Nat) : Int)) else r11_Best.l0 k p q ninL ((i + 1 : Nat) : Int) := by
 have hw : wrap64 ((i : Int) + 1) = ((i + 1 : Nat) : Int) := by unfold wrap64; omega
 have hl : (ninL.length : Int) = 9 := rfl;obtain ⟨h1, h2, h3⟩ := nin_row ⟨i, hi⟩;simp only at h1 h2 h3;simp only [r11_Best.l0];rw [if_pos (by rw [hl]; omega), if_pos (by omega), h1, h2, h3, hw, if_pos (by decide : (0 : Int) < ((2 : Nat) : Int))];by_cases c1 : p = (atK ninE i).f0
 ·
  by_cases c2 : q = (atK ninE i).f1
  · rw [if_pos c1.symm, if_pos (by decide : (1 : Int) < ((2 : Nat) : Int)), if_pos c2.symm, if_pos ⟨c1, c2⟩]
  rw [if_pos c1.symm, if_pos (by decide : (1 : Int) < ((2 : Nat) : Int)), if_neg (fun h => c2 h.symm), if_neg (fun h => c2 h.2)]
 rw [if_neg (fun h => c1 h.symm), if_neg (fun h => c1 h.1)]
theorem rbest_told (p q : Int) (k : Nat) (hk : 20 ≤ k) : r11_Best.f k p q = some (bestP p q) := by
 obtain ⟨k, rfl⟩ : ∃ m, k = m + 10 := ⟨k - 10, by omega⟩;unfold r11_Best.f;show r11_Best.l0 (k + 10) p q ninL ((0 : Nat) : Int) = _
 rw [rbest_step _ 0 p q (by decide), rbest_step _ 1 p q (by decide), rbest_step _ 2 p q (by decide), rbest_step _ 3 p q (by decide), rbest_step _ 4 p q (by decide), rbest_step _ 5 p q (by decide), rbest_step _ 6 p q (by decide), rbest_step _ 7 p q (by decide), rbest_step _ 8 p q (by decide)]
 have hend : r11_Best.l0 (k + 1) p q ninL ((8 + 1 : Nat) : Int) = some 0 := by
  simp only [r11_Best.l0];rw [if_neg (by decide)]
 rw [hend];unfold bestP;show (if p = 1 ∧ q = 0 then _ else if p = 0 ∧ q = 0 then _ else if p = 0 ∧ q = 1 then _ else if p = 0 ∧ q = 2 then _ else if p = 0 ∧ q = 3 then _ else if p = 3 ∧ q = 1 then _ else if p = 0 ∧ q = 4 then _ else if p = 0 ∧ q = 6 then _ else if p = 3 ∧ q = 10 then _ else _ : Option Int) = _
 repeat' split
 all_goals rfl
theorem format_told (n : Int) : r11_format.f n = some (isFmt n) := by
 unfold r11_format.f;by_cases h0 : n = 0
 · rw [if_pos h0, h0]; rfl
 by_cases h1 : n = 4
 · rw [if_neg h0, if_pos h1, h1]; rfl
 by_cases h2 : n = 6
 · rw [if_neg h0, if_neg h1, if_pos h2, h2]; rfl
 by_cases h3 : n = 12
 · rw [if_neg h0, if_neg h1, if_neg h2, if_pos h3, h3]; rfl
 rw [if_neg h0, if_neg h1, if_neg h2, if_neg h3];congr 1
 unfold isFmt;by_cases h4 : n = 13
 · rw [h4]; rfl
 rw [beq_eq_false_iff_ne.2 h4, decide_eq_false (by omega)]
theorem read11_ref (s : ByteArray) (k : Nat) (hk : 300000 ≤ k) (hs : s.size ≤ 3000000) : r11_Read.f (k + 1) s = some (readM s) := by
 unfold r11_Read.f readM;by_cases h2 : s.size < 2
 · rw [if_pos (by omega), if_pos h2]
 rw [if_neg (by omega), if_neg h2, if_pos (by decide), if_pos (by omega), one_w2 s 0 (by omega) (k + 1) (by omega), Option.bind_some];obtain ⟨f, hf⟩ : ∃ f, f = w2 s 0 := ⟨_, rfl⟩;rw [← hf];clear hf;have g8 := get_ref s k (by omega);have g9 := get9_ref s k (by omega) hs;have g10 := get10_ref s k (by omega);generalize getC s = C at g8 ⊢
 generalize getS s = D at g9 ⊢
 generalize getG s = E at g10 ⊢
 by_cases h0 : f = 0
 ·
  rw [if_pos h0, if_pos (.inl h0)];simp only [r11_Read.j0];rw [if_pos (by rw [h0]; rfl), g8];rfl
 rw [if_neg h0];simp only [r11_Read.j0];by_cases h6 : f = 6
 ·
  rw [if_pos (by rw [h6]; rfl), g8, if_pos (.inr h6)];rfl
 rw [if_neg (by rw [beq_iff_eq]; exact h6), if_neg (show ¬ (f = 0 ∨ f = 6) by omega)];by_cases h4 : f = 4
 ·
  rw [if_pos h4, g9, if_pos h4];rfl
 rw [if_neg h4, if_neg h4];by_cases h12 : f = 12
 ·
  rw [if_pos h12, g10, if_pos (.inl h12)];rfl
 rw [if_neg h12];by_cases h13 : f = 13
 ·
  rw [if_pos h13, g10, if_pos (.inr h13)];rfl
 rw [if_neg h13, if_neg (by omega)]
structure Bst (o : S47 × Bool) : Prop where
 z : o.2 = false → o.1 = ⟨0, 0⟩
 p : o.2 = true → 0 < o.1.f0
 a : 0 ≤ o.1.f1
theorem bst_step (s : ByteArray) (i : Nat) {o : S47 × Bool} (h : Bst o) (ho : bestS (entsM s i) = o) :
  Bst (bestS (entsM s (i + 1))) ∧ bestS (entsM s (i + 1)) = if o.1.f0 < (entM s i).f0 ∧ ((entM s i).f1.toNat + 2 ≤ s.size ∧ isFmt (w2 s (entM s i).f1.toNat) = true) then (entM s i, true) else o := by
 have hb := bestP_bd (w2 s (4 + 8 * i)) (w2 s (6 + 8 * i));have hw := w4_bd s (8 + 8 * i);have hf0 : (entM s i).f0 = bestP (w2 s (4 + 8 * i)) (w2 s (6 + 8 * i)) := rfl;have hf1 : (entM s i).f1 = w4 s (8 + 8 * i) := rfl;obtain ⟨x, hx⟩ : ∃ x, x = entM s i := ⟨_, rfl⟩;rw [entsM_succ, ← hx];rw [← hx] at hf0 hf1
 have hpos : 0 ≤ o.1.f0 := by
  cases hz : o.2 with
  | false => rw [h.z hz]; exact Int.le_refl _
  | true => have := h.p hz; omega
 have e : bestS (entsM s i ++ (if mayM s x = true then [x] else [])) = if o.1.f0 < x.f0 ∧ (x.f1.toNat + 2 ≤ s.size ∧ isFmt (w2 s x.f1.toNat) = true) then (x, true) else o := by
  by_cases hm : mayM s x = true
  ·
   rw [if_pos hm];have he : bestS (entsM s i ++ [x]) = pickS (bestS (entsM s i)) x := by unfold bestS; rw [List.foldl_append]; rfl
   rw [he, ho];have hm2 := hm;unfold mayM at hm2;simp only [Bool.and_eq_true, decide_eq_true_eq] at hm2;unfold pickS;by_cases hc : o.1.f0 < x.f0
   · rw [if_pos (.inr hc), if_pos ⟨hc, hm2.2⟩]
   have hn : ¬ (o.2 = false ∨ o.1.f0 < x.f0) := by
    rintro (hh | hh)
    ·
     have hz := h.z hh;rw [hz] at hc;have := hm2.1;have hc' : ¬ (0 : Int) < x.f0 := hc;omega
    exact hc hh
   rw [if_neg hn, if_neg (fun hh => hc hh.1)]
  rw [if_neg hm, List.append_nil, ho]
  have hn : ¬ (o.1.f0 < x.f0 ∧ (x.f1.toNat + 2 ≤ s.size ∧ isFmt (w2 s x.f1.toNat) = true)) := fun hh => by
   apply hm
   unfold mayM;simp only [Bool.and_eq_true, decide_eq_true_eq];exact ⟨by have := hh.1; omega, hh.2⟩
  rw [if_neg hn]
 refine ⟨?_, e⟩;rw [e];split
 ·
  rename_i hc
  exact ⟨fun h => Bool.noConfusion h, fun _ => by show 0 < x.f0; have := hc.1; omega, by show 0 ≤ x.f1; omega⟩
 exact h
theorem get11_loop (s : ByteArray) (hs : s.size ≤ 3000000) (m : Nat) (hm : m ≤ 64) (hsz : 4 + 8 * m ≤ s.size) (d : Nat) : ∀ k i (o : S47 × Bool), m - i = d → i ≤ m → 300100 + d ≤ k → Bst o → bestS (entsM s i) = o →
  r11_Get.l0 k s (m : Int) o.1.f0 o.1.f1 (i : Int) = some (if (bestS (entsM s m)).2 = false then ([], 6) else readM (s.extract (bestS (entsM s m)).1.f1.toNat s.size)) := by
 induction d with
 | zero =>
  intro k i o hd hi hk hB ho;obtain ⟨k, rfl⟩ : ∃ n, k = n + 2 := ⟨k - 2, by omega⟩;have him : i = m := by omega
  subst him;have hat : (bestS (entsM s i)).2 = true → 0 ≤ (bestS (entsM s i)).1.f1 ∧ (bestS (entsM s i)).1.f1.toNat + 2 ≤ s.size := fun hh => best_at (x := (bestS (entsM s i)).1) (by rw [← hh])
  rw [ho] at hat ⊢;simp only [r11_Get.l0];rw [if_neg (by omega)];cases hz : o.2 with
  | false =>
   rw [hB.z hz];rfl
  | true =>
   have hp := hB.p hz;obtain ⟨a0, a1⟩ := hat hz;have hx : (s.extract o.1.f1.toNat s.size).size ≤ 3000000 := by rw [ByteArray.size_extract]; omega
   rw [if_neg (by omega), if_pos a0, if_pos (by omega), read11_ref _ k (by omega) hx, if_neg (fun h => Bool.noConfusion h)];rfl
 | succ d ih =>
  intro k i o hd hi hk hB ho;obtain ⟨k, rfl⟩ : ∃ n, k = n + 1 := ⟨k - 1, by omega⟩;have hlt : i < m := by omega
  have n1 : 4 + 8 * i + 2 ≤ s.size := by omega
  have n2 : 4 + 8 * i + 2 + 2 ≤ s.size := by omega
  have n3 : 4 + 8 * i + 2 + 2 + 4 ≤ s.size := by omega
  have o1 := one_w2 s (4 + 8 * i) n1 k (by omega);have o2 := one_w2 s (4 + 8 * i + 2) n2 k (by omega);have o3 := one_at s (4 + 8 * i + 2 + 2) (s := 4) (by decide) 4 rfl n3 k (by omega);have q1 : 4 + 8 * i + 2 = 6 + 8 * i := by omega
  have q2 : 4 + 8 * i + 2 + 2 = 8 + 8 * i := by omega
  obtain ⟨hB2, hst⟩ := bst_step s i hB ho;have hen : entM s i = ⟨bestP (w2 s (4 + 8 * i)) (w2 s (4 + 8 * i + 2)), w4 s (4 + 8 * i + 2 + 2)⟩ := by rw [q2, q1]; rfl
  have hwb := w4_bd s (4 + 8 * i + 2 + 2);rw [hen] at hst;have o3 : r03_One.f k (s.extract (4 + 8 * i + 2 + 2) (4 + 8 * i + 2 + 2 + 4)) 4 = some (w4 s (4 + 8 * i + 2 + 2)) := o3;obtain ⟨x0, h0⟩ : ∃ x, x = bestP (w2 s (4 + 8 * i)) (w2 s (4 + 8 * i + 2)) := ⟨_, rfl⟩;obtain ⟨x1, h1⟩ : ∃ x, x = w4 s (4 + 8 * i + 2 + 2) := ⟨_, rfl⟩;rw [← h0, ← h1] at hst;rw [← h1] at hwb o3;obtain ⟨at_, rfl⟩ := Int.eq_ofNat_of_zero_le hwb.1;have hat : at_ ≤ 4294967295 := by omega
  clear hen h1 hwb q1 q2
  have hgo : r11_Get.l0 (k + 1) s (m : Int) o.1.f0 o.1.f1 (i : Int) = if o.1.f0 < x0 ∧ (at_ + 2 ≤ s.size ∧ isFmt (w2 s at_) = true) then r11_Get.l0 k s (m : Int) x0 ((at_ : Nat) : Int) ((i + 1 : Nat) : Int) else r11_Get.l0 k s (m : Int) o.1.f0 o.1.f1 ((i + 1 : Nat) : Int) := by
   have e1 : wrap64 (8 * (i : Int)) = 8 * (i : Int) := by unfold wrap64; omega
   have e2 : wrap64 (4 + 8 * (i : Int)) = ((4 + 8 * i : Nat) : Int) := by unfold wrap64; omega
   have e3 : wrap64 (((4 + 8 * i : Nat) : Int) + 2) = ((4 + 8 * i + 2 : Nat) : Int) := by unfold wrap64; omega
   have e4 : wrap64 (((4 + 8 * i : Nat) : Int) + 4) = ((4 + 8 * i + 2 + 2 : Nat) : Int) := by unfold wrap64; omega
   have e5 : wrap64 (((4 + 8 * i : Nat) : Int) + 8) = ((4 + 8 * i + 2 + 2 + 4 : Nat) : Int) := by unfold wrap64; omega
   have e6 : wrap64 ((i : Int) + 1) = ((i + 1 : Nat) : Int) := by unfold wrap64; omega
   have e7 : wrap64 (((at_ : Nat) : Int) + 2) = ((at_ + 2 : Nat) : Int) := by unfold wrap64; omega
   simp only [r11_Get.l0, e1, e2, e3, e4, e5, e6, Int.toNat_natCast];clear e1 e2 e3 e4 e5 e6
   rw [if_pos (by omega), if_pos (by omega), if_pos (by omega), if_pos (by omega), o1, Option.bind_some, if_pos (by omega), if_pos (by omega), if_pos (by omega), o2, Option.bind_some, rbest_told _ _ k (by omega), Option.bind_some, ← h0,
    if_pos (by omega), if_pos (by omega), if_pos (by omega), o3, Option.bind_some]
   by_cases c1 : o.1.f0 < x0
   ·
    rw [if_pos c1, e7];by_cases c2 : at_ + 2 ≤ s.size
    ·
     have o4 := one_w2 s at_ c2 k (by omega)
     simp only [Int.toNat_natCast];rw [if_pos (by omega), if_pos (by omega), if_pos (by omega), o4, Option.bind_some, format_told, Option.bind_some];by_cases c3 : isFmt (w2 s at_) = true
     · rw [if_pos c3, if_pos ⟨c1, c2, c3⟩]
     rw [if_neg c3, if_neg (fun h => c3 h.2.2)]
    rw [if_neg (by omega), if_neg (fun h => c2 h.2.1)]
   rw [if_neg c1, if_neg (fun h => c1 h.1)]
  rw [hgo];simp only [Int.toNat_natCast] at hst;by_cases hc : o.1.f0 < x0 ∧ (at_ + 2 ≤ s.size ∧ isFmt (w2 s at_) = true)
  ·
   rw [if_pos hc] at hst ⊢;exact ih k (i + 1) (⟨x0, ((at_ : Nat) : Int)⟩, true) (by omega) (by omega) (by omega) (by rw [← hst]; exact hB2) hst
  rw [if_neg hc] at hst ⊢;exact ih k (i + 1) o (by omega) (by omega) (by omega) hB hst
theorem get11_ref (s : ByteArray) (k : Nat) (hk : 301000 ≤ k) (hs : s.size ≤ 3000000) : r11_Get.f k s = some (getM s) := by
 unfold r11_Get.f;by_cases h4 : s.size < 4
 · rw [if_pos (by omega)]; unfold getM; rw [if_pos h4]
 have h4' : 4 ≤ s.size := by omega
 rw [if_neg (by omega), if_pos (by decide), if_pos (by omega), one_w2 s 0 (by omega) k (by omega), Option.bind_some];by_cases h0 : w2 s 0 = 0
 case neg => rw [if_neg h0, getM_form h4' h0]
 rw [if_pos h0, if_pos (by decide), if_pos (by omega), one_w2 s 2 (by omega) k (by omega), Option.bind_some];by_cases hl : w2 s 2 > 64
 · rw [if_pos hl, getM_long h4' h0 hl]
 rw [if_neg hl];obtain ⟨m, hm⟩ := Int.eq_ofNat_of_zero_le (w2_bd s 2).1;have hm2 : m ≤ 64 := by omega
 have hw : wrap64 (4 + wrap64 (8 * (m : Int))) = 4 + 8 * (m : Int) := by unfold wrap64; omega
 rw [hm, hw];by_cases hz : 4 + 8 * m ≤ s.size
 ·
  rw [if_neg (by omega), getM_of h4' h0 hm hm2 hz];exact get11_loop s hs m hm2 hz m k 0 (⟨0, 0⟩, false) (by omega) (by omega) (by omega) ⟨fun _ => rfl, fun h => Bool.noConfusion h, Int.le_refl _⟩ rfl
 rw [if_pos (by omega), getM_more h4' h0 hm hm2 hz]
theorem form_size (l : List S61) (n : Int) : (formM l n).1.size ≤ 2000000 := by
 unfold formM;split
 · exact small_size l
 split
 · exact putS_size l
 split
 · exact trim_size l
 exact putG_size l n
theorem write11_ref (l : List S61) (n : Int) (k : Nat) (hk : fuelS l + 400000 ≤ k) : r11_write.f k l n = some (formM l n) := by
 have g1 := small_ref l k (by omega);have g2 := trim_ref l k (by omega);have g3 := put9_ref l k (by omega);have g4 := put10_ref l n k (by omega);unfold r11_write.f formM;generalize smallN l = A at g1 ⊢
 generalize trimN l = B at g2 ⊢
 generalize putS l = C at g3 ⊢
 generalize putG l n = D at g4 ⊢
 by_cases h0 : n = 0
 · rw [if_pos h0, if_pos h0, g1]; rfl
 rw [if_neg h0, if_neg h0];by_cases h6 : n = 6
 · rw [if_pos h6, if_neg (by omega), if_pos h6, g2]; rfl
 rw [if_neg h6, if_neg h6];by_cases h4 : n = 4
 · rw [if_pos h4, if_pos h4, g3]; rfl
 rw [if_neg h4, if_neg h4, g4]; rfl
theorem front_a : ((⟨#[0, 0, 0, 1]⟩ : ByteArray) ++ (⟨#[0, 1, 0, 0, 0, 0, 0, 12]⟩ : ByteArray)) = ⟨(headC 1 0).toArray⟩ := by kernel_rfl
theorem front_b : ((⟨#[0, 0, 0, 1]⟩ : ByteArray) ++ (⟨#[0, 3, 0, 1, 0, 0, 0, 12]⟩ : ByteArray)) = ⟨(headC 3 1).toArray⟩ := by kernel_rfl
theorem front_c : ((⟨#[0, 0, 0, 1]⟩ : ByteArray) ++ (⟨#[0, 3, 0, 10, 0, 0, 0, 12]⟩ : ByteArray)) = ⟨(headC 3 10).toArray⟩ := by kernel_rfl
theorem glyph11_ref (l : List S61) (c g : Int) (k : Nat) (hk : 131100 ≤ k) : r11_Glyph.f k l c g = some (glyM l c g) := by
 unfold r11_Glyph.f glyM;rw [is_ref8 l k (.inl hk), Option.bind_some];cases h : isL l with
 | false => rw [if_neg Bool.false_ne_true, if_pos rfl]
 | true =>
  rw [if_pos rfl, if_neg (show ¬ true = false by decide), Look_ref l c k (.inl hk), Option.bind_some];unfold glyphOf;rw [h, if_pos rfl];by_cases h0 : lookN l c = 0
  · rw [if_pos h0, if_pos h0]
  rw [if_neg h0, if_neg h0];by_cases h1 : g ≤ lookN l c
  · rw [if_pos h1, if_pos h1]
  rw [if_neg h1, if_neg h1]
theorem rput_calls (A0 : Option Addr) (c0 : Nat) (l : List S61) (n : Int) (w : World) (hr0 : Kd.C k61 w A0 l.length l) (hc0 : l.length ≤ c0) :
  Calls Tryz.prog 10 #[.slice A0 l.length c0, .int .i64 n] w fun e w' => e = .returned (.tuple #[.string (putM l n).1, .int .i64 (putM l n).2]) ∧ Below w.heap.size w w' := by
 have HB := hI (Below.refl w.heap.size w);have HF := hI (r11_format.calls n (isFmt n) w (format_told n));by_cases hf : isFmt n = true
 case neg =>
  have hf0 : isFmt n = false := by cases hh : isFmt n with | true => exact absurd hh hf | false => rfl
  have HR := hI (putM_not (l := l) hf0);rw [hf0] at HF;clear hf hf0 hr0;go_enter Tryz.func10, Tryz.ntmps10;go_wp2_with fail
  refine HF.out.mono ?_;rintro e w1 ⟨rfl, nd, rfl⟩;go_wp2;go_ret2;rw [HR.out];exact ⟨rfl, pw_below_drewN HB.out _⟩
 obtain ⟨s, e, hs⟩ : ∃ s e, formM l n = (s, e) := ⟨_, _, rfl⟩;have HZ := hI (show s.size ≤ 2000000 by have := form_size l n; rw [hs] at this; exact this);have HW := hI ((write11_ref l n (fuelS l + 400000) (Nat.le_refl _)).trans (congrArg some hs));have HR := hI ((putM_form (l := l) hf).trans (congrArg _ hs));have HC := hI hr0;rw [hf] at HF;have HN := hI hf;clear hf hr0 hs;go_enter Tryz.func10, Tryz.ntmps10;go_wp2_with fail
 refine HF.out.mono ?_;rintro x w1 ⟨rfl, nd, rfl⟩;go_wp2_with fail
 refine (r11_write.calls (fuelS l + 400000) A0 c0 l n s e _ (Kd.C_drewN HC.out _) hc0 HW.out).mono ?_;rintro x w2 ⟨rfl, hb⟩;replace HB := hI (below_step (pw_below_drewN HB.out _) hb);clear hb HF HC HW;by_cases h0 : e = 0
 case neg =>
  have d1 : (e != 0) = true := by simpa using h0
  replace HR := hI (HR.out.trans (show wrapC (kindP n) (kindE n) (s, e) = (⟨#[]⟩, e) by unfold wrapC; rw [if_pos h0]));clear h0;go_wp2;go_ret2;rw [HR.out];exact ⟨rfl, HB.out⟩
 subst h0;have HF := hI ((isFmt_iff n).1 HN.out);have hsz : s.size ≤ 2000000 := HZ.out;rcases HF.out with rfl | rfl | rfl | rfl | rfl
 ·
  replace HR := hI (HR.out.trans (show _ = (_ ++ s, (0 : Int)) by unfold wrapC; rw [if_neg (fun h => h rfl)]; first | done | exact congrArg (fun x => (x ++ s, (0 : Int))) front_a.symm));go_wp2;go_ret2;rw [HR.out];exact ⟨rfl, HB.out⟩
 ·
  replace HR := hI (HR.out.trans (show _ = (_ ++ s, (0 : Int)) by unfold wrapC; rw [if_neg (fun h => h rfl)]; first | done | exact congrArg (fun x => (x ++ s, (0 : Int))) front_b.symm));go_wp2;go_ret2;rw [HR.out];exact ⟨rfl, HB.out⟩
 ·
  replace HR := hI (HR.out.trans (show _ = (_ ++ s, (0 : Int)) by unfold wrapC; rw [if_neg (fun h => h rfl)]; first | done | exact congrArg (fun x => (x ++ s, (0 : Int))) front_b.symm));go_wp2;go_ret2;rw [HR.out];exact ⟨rfl, HB.out⟩
 ·
  replace HR := hI (HR.out.trans (show _ = (_ ++ s, (0 : Int)) by unfold wrapC; rw [if_neg (fun h => h rfl)]; first | done | exact congrArg (fun x => (x ++ s, (0 : Int))) front_c.symm));go_wp2;go_ret2;rw [HR.out];exact ⟨rfl, HB.out⟩
 replace HR := hI (HR.out.trans (show _ = (_ ++ s, (0 : Int)) by unfold wrapC; rw [if_neg (fun h => h rfl)]; first | done | exact congrArg (fun x => (x ++ s, (0 : Int))) front_c.symm));go_wp2;go_ret2;rw [HR.out];exact ⟨rfl, HB.out⟩
theorem one_C (w : World) (x : S61) : Kd.C k61 (w.alloc (.cells #[.int .i64 x.f0, .int .i64 x.f1, .int .i64 x.f2, .int .i64 x.f3] 61)) (some ⟨w.heap.size, 0, none⟩) 1 [x] := by
 have hc := heap_alloc_new w (.cells #[.int .i64 x.f0, .int .i64 x.f1, .int .i64 x.f2, .int .i64 x.f3] 61);refine ⟨rfl, by decide, fun _ => ⟨_, rfl, fun j q hj => ?_⟩⟩;match j, hj with
 | 0, hj =>
  have hq : x = q := by simpa using hj
  subst hq;refine ⟨[.int .i64 x.f0, .int .i64 x.f1, .int .i64 x.f2, .int .i64 x.f3], rfl, k61_mk _ x, fun i u hu => ?_⟩;match i, hu with
  | 0, hu => rw [← (show Value.int .i64 x.f0 = u by simpa using hu)]; exact (blk_cell hc 0).trans rfl
  | 1, hu => rw [← (show Value.int .i64 x.f1 = u by simpa using hu)]; exact (blk_cell hc 1).trans rfl
  | 2, hu => rw [← (show Value.int .i64 x.f2 = u by simpa using hu)]; exact (blk_cell hc 2).trans rfl
  | 3, hu => rw [← (show Value.int .i64 x.f3 = u by simpa using hu)]; exact (blk_cell hc 3).trans rfl
  | n + 4, hu => simp at hu
 | n + 1, hj => simp at hj
def vinculumlaw11_mapped.f : Option Bool := some true
theorem vinculumlaw11_mapped.calls (r : Bool) (w : World) (h : vinculumlaw11_mapped.f = some r) :
  Calls Tryz.prog 13 #[] w fun e w' => e = .returned (.bool r) ∧ Below w.heap.size w w' := by
 obtain rfl := Option.some.inj h;clear h;obtain ⟨M, _, _, hB, _, hg, _⟩ := put_back c0_put
 have hl : ∀ c g, cmap_Glyph.f M c g = some (glyM C0 c g) := fun c g => by
  rw [glyph_told];unfold glyM;rw [hB.j, hB.i, hB.k c]
 have g1 : glyM C0 66 5 = (4, 0) := by decide +kernel
 have g2 : glyM C0 67 5 = (0, 10) := by decide +kernel
 have g3 : glyM C0 66 4 = (0, 10) := by decide +kernel
 have H1 := hI ((hl 66 5).trans (congrArg some g1));have H2 := hI ((hl 67 5).trans (congrArg some g2));have H3 := hI ((hl 66 4).trans (congrArg some g3));have HP := hI (show cmap_Put.f C0 4 = some ((putM C0 4).1, 0) by show some (putM C0 4) = _; rw [← c0_put]);have HG := hI (show cmap_Get.f (putM C0 4).1 = some (M, 0) by show some (getM (putM C0 4).1) = _; rw [hg]);have HZ := hI (show cmap_Get.f (⟨#[0, 0, 0, 0]⟩ : ByteArray) = some ([], 6) by kernel_rfl);have B1 := hI ((best_told 3 10 20 (Nat.le_refl _)).trans (show some (bestP 3 10) = some 9 by decide));have B2 := hI ((best_told 2 0 20 (Nat.le_refl _)).trans (show some (bestP 2 0) = some 0 by decide));obtain ⟨s, hs⟩ : ∃ s, s = (putM C0 4).1 := ⟨_, rfl⟩;rw [← hs] at HP HG;clear hB hg hl g1 g2 g3 hs;go_enter Tryz.func13, Tryz.ntmps13;go_wp2_with fail
 have C1 := one_C w ⟨65, 66, 3, 1⟩;refine (cmap_Put.calls _ 1 C0 4 s 0 _ C1 (Nat.le_refl _) HP.out).mono ?_;rintro e w1 ⟨rfl, hb⟩;have HB1 := hI ((below_alloc (Below.refl w.heap.size w) _).trans (hb.mono (by simp)));clear hb C1;go_wp2_with fail
 refine (cmap_Get.calls s M 0 w1 HG.out).mono ?_;rintro e w2 ⟨v, rfl, hr, hb⟩;obtain ⟨A2, k2, rfl⟩ := Kd.R_slice hr;obtain ⟨_, _, e0, hk2, C2⟩ := Kd.R_reads hr;injection e0 with e1 e2 e3
 subst e1;subst e3;have HB2 := hI (HB1.out.trans (hb.mono HB1.out.size));have HC2 := hI C2;have HK2 := hI hk2;clear hr hb C2 hk2 e2;go_wp2_with fail
 refine (cmap_Glyph.calls A2 k2 M 66 5 4 0 w2 HC2.out HK2.out H1.out).mono ?_;rintro e w3 ⟨rfl, hb⟩;have HB3 := hI (HB2.out.trans (hb.mono HB2.out.size));have HC3 := hI (Kd.C_below HC2.out hb);clear hb HC2;go_wp2_with fail
 refine (cmap_Glyph.calls A2 k2 M 67 5 0 10 w3 HC3.out HK2.out H2.out).mono ?_;rintro e w4 ⟨rfl, hb⟩;have HB4 := hI (HB3.out.trans (hb.mono HB3.out.size));have HC4 := hI (Kd.C_below HC3.out hb);clear hb HC3;go_wp2_with fail
 refine (cmap_Glyph.calls A2 k2 M 66 4 0 10 w4 HC4.out HK2.out H3.out).mono ?_;rintro e w5 ⟨rfl, hb⟩;have HB5 := hI (HB4.out.trans (hb.mono HB4.out.size));clear hb HC4 HK2;go_wp2_with fail
 refine (cmap_Get.calls _ [] 6 w5 HZ.out).mono ?_;rintro e w6 ⟨v, rfl, hr, hb⟩;obtain ⟨A6, k6, rfl⟩ := Kd.R_slice hr;have HB6 := hI (HB5.out.trans (hb.mono HB5.out.size));clear hr hb;go_wp2_with fail
 refine (cmap_Best.calls 20 3 10 9 w6 B1.out).mono ?_;rintro e w7 ⟨rfl, hb⟩;have HB7 := hI (HB6.out.trans (hb.mono HB6.out.size));clear hb;go_wp2_with fail
 refine (cmap_Best.calls 20 2 0 0 w7 B2.out).mono ?_;rintro e w8 ⟨rfl, hb⟩;have HB8 := hI (HB7.out.trans (hb.mono HB7.out.size));clear hb;go_wp2;go_ret;exact ⟨rfl, HB8.out⟩
theorem getG_ok {s : ByteArray} {L : List S61} {e : Int} (h : getG s = (L, e)) : L.length ≤ 65536 ∧ (e ≠ 0 → L = []) := by
 unfold getG at h;have hb := w4_bd s 12;split at h
 · obtain ⟨rfl, rfl⟩ := Prod.mk.inj h; exact ⟨by decide, fun _ => rfl⟩
 split at h
 · obtain ⟨rfl, rfl⟩ := Prod.mk.inj h; exact ⟨by decide, fun _ => rfl⟩
 split at h
 · obtain ⟨rfl, rfl⟩ := Prod.mk.inj h; exact ⟨by decide, fun _ => rfl⟩
 split at h
 · obtain ⟨rfl, rfl⟩ := Prod.mk.inj h; exact ⟨by decide, fun _ => rfl⟩
 split at h
 · obtain ⟨rfl, rfl⟩ := Prod.mk.inj h; exact ⟨by decide, fun _ => rfl⟩
 split at h
 ·
  rename_i hi
  obtain ⟨rfl, rfl⟩ := Prod.mk.inj h;exact ⟨(isL_all hi).1, fun h => absurd rfl h⟩
 obtain ⟨rfl, rfl⟩ := Prod.mk.inj h; exact ⟨by decide, fun _ => rfl⟩
theorem readM_len (s : ByteArray) : (readM s).1.length ≤ 65536 := by
 unfold readM;split
 · exact Nat.zero_le _
 split
 · exact getC_len s
 split
 ·
  obtain ⟨l, e, h⟩ : ∃ l e, getS s = (l, e) := ⟨_, _, rfl⟩;rw [h];obtain ⟨h1, h2, _⟩ := getS_ok h;by_cases he : e = 0
  · exact (isL_all (h2 he).1).1
  show l.length ≤ _; rw [h1 he]; exact Nat.zero_le _
 split
 ·
  obtain ⟨l, e, h⟩ : ∃ l e, getG s = (l, e) := ⟨_, _, rfl⟩;rw [h];exact (getG_ok h).1
 exact Nat.zero_le _
theorem getM_len (s : ByteArray) : (getM s).1.length ≤ 65536 := by
 unfold getM;split
 · exact Nat.zero_le _
 split
 · exact Nat.zero_le _
 split
 · exact Nat.zero_le _
 split
 · exact Nat.zero_le _
 split
 · exact Nat.zero_le _
 exact readM_len _
theorem cdoes_calls (s : ByteArray) (A1 : Option Addr) (c1 : Nat) (l : List S61) (n c g : Int) (w : World) (hr1 : Kd.C k61 w A1 l.length l) (hc1 : l.length ≤ c1) :
  Calls Tryz.prog 3 #[.string s, .slice A1 l.length c1, .int .i64 n, .int .i64 c, .int .i64 g] w fun e w' => e = .returned (.bool true) ∧ Below w.heap.size w w' := by
 by_cases h1 : 3000 < s.size
 ·
  have d1 : decide (3000 < (s.size : Int)) = true := decide_eq_true (by omega);have d2 : decide (3000 < s.size) = true := decide_eq_true h1;clear h1;go_enter Tryz.func3, Tryz.ntmps3;go_wp2;go_ret;exact ⟨rfl, Below.refl _ _⟩
 have d1 : decide (3000 < (s.size : Int)) = false := decide_eq_false (by omega);have d2 : decide (3000 < s.size) = false := decide_eq_false h1;obtain ⟨b, hb0, hb2⟩ := short11_told l 200000 (Nat.le_refl _);have HC1 := hI hc1;have HS := hI (r11_Short.calls 200000 A1 c1 l b w hr1 hc1 hb0);have HL := hI hr1;have HH := hI (show ¬ 3000 < s.size from h1);have HB2 := hI hb2;clear hc1 hb0 hr1 h1 hb2;go_enter Tryz.func3, Tryz.ntmps3;go_wp2_with fail
 refine HS.out.mono ?_;rintro e w0 ⟨rfl, hb⟩;have HB := hI hb;clear hb HS;cases b with
 | false =>
  go_wp2;go_ret;exact ⟨rfl, HB.out⟩
 | true =>
  have hl : l.length ≤ 60 := HB2.out rfl;have hs : s.size ≤ 3000 := Nat.le_of_not_lt HH.out;obtain ⟨LA, ea, hA⟩ : ∃ l e, getM s = (l, e) := ⟨_, _, rfl⟩;obtain ⟨LB, eb, hB⟩ : ∃ l e, readM s = (l, e) := ⟨_, _, rfl⟩;obtain ⟨t, ec, hP⟩ : ∃ t e, putM l n = (t, e) := ⟨_, _, rfl⟩;obtain ⟨gn, gk, hG⟩ : ∃ a e, glyM l c g = (a, e) := ⟨_, _, rfl⟩;obtain ⟨bb, hbb⟩ : ∃ x, bestP n c = x := ⟨_, rfl⟩;have la := getM_len s;have lb := readM_len s;rw [hA] at la;rw [hB] at lb;have F1 := hI (show cmap_Get.f s = some (LA, ea) from congrArg some hA);have F2 := hI ((get11_ref s 301000 (Nat.le_refl _) (by omega)).trans (congrArg some hA));have F3 := hI (show cmap_Read.f s = some (LB, eb) from congrArg some hB);have F4 := hI ((read11_ref s 300000 (Nat.le_refl _) (by omega)).trans (congrArg some hB));have F5 := hI (show cmap_Put.f l n = some (t, ec) from congrArg some hP);have F7 := hI ((glyph_told l c g).trans (congrArg some hG));have F8 := hI ((glyph11_ref l c g 131100 (Nat.le_refl _)).trans (congrArg some hG));have B1 := hI ((best_told n c 20 (Nat.le_refl _)).trans (congrArg some hbb));have B2 := hI ((rbest_told n c 20 (Nat.le_refl _)).trans (congrArg some hbb));have S1 := hI (same_self8 LA (by exact Nat.le_trans la (by decide)) 70000 (Nat.lt_of_le_of_lt la (by decide)));have S2 := hI (same_self8 LB (by exact Nat.le_trans lb (by decide)) 70000 (Nat.lt_of_le_of_lt lb (by decide)));have S3 := hI (same_self8 l (Nat.le_trans hl (by decide)) 70000 (Nat.lt_of_le_of_lt hl (by decide)));have HPM := hI hP;have HLL := hI hl;clear HH HB2 hl hs hA hB hP hG hbb la lb;go_wp2_with (first | ((with_reducible refine gate_builtin (b := .append) (xs := #[.tmp 36, .tmp 37]) rfl ?_); at_builtin; refine Kd.R_append_rows k61 (w0 := w) w.heap.size rfl (.tmp 36) (.tmp 37) 22 61 (.agg #[(.int .i64 0), (.int .i64 0), (.int .i64 0), (.int .i64 0)]) 32 rfl Tryz.underlying22 info61 rfl (by decide) (by decide) (.slice none 0 0) [] l _ _ _ (fun _ => True) (fun _ => False) rfl rfl (Kd.R_nil _ _ _ _ (fun _ => True)) (Kd.C_below HL.out HB.out) (fun _ _ h => h) (fun _ h => h.elim) (fun _ _ => trivial) HB.out HB.out.size (by have := HLL.out; simp only [List.length_nil]; omega) ?_; intro v1 wa hva hba hga hat; have HVA := hI hva; have HBA := hI hba; have HLA := hI (hat); clear hva hba hga hat))
  obtain ⟨AO, kO, rfl⟩ := Kd.R_slice HVA.out;obtain ⟨_, _, e0, hk, CX⟩ := Kd.R_reads HVA.out;injection e0 with e1 e2 e3
  subst e1 e3;rw [List.nil_append] at CX hk;have HKO := hI hk;have HO := hI CX;replace HB := HBA;clear HBA HLA HVA CX hk e2;go_wp2_with fail
  refine (cmap_Get.calls s LA ea _ F1.out).mono ?_;rintro e w2 ⟨v, rfl, hr, hb⟩;obtain ⟨AX, kX, rfl⟩ := Kd.R_slice hr;obtain ⟨_, _, e0, hk, CX⟩ := Kd.R_reads hr;injection e0 with e1 e2 e3
  subst e1 e3;replace HO := hI (Kd.C_below HO.out hb);replace HB := hI (below_step HB.out hb);have HX := hI CX;have HKX := hI hk;clear hr hb hk CX e2;go_wp2_with fail
  refine (r11_Get.calls 301000 s LA ea _ F2.out).mono ?_;rintro e w3 ⟨v, rfl, hr, hb⟩;obtain ⟨AY, kY, rfl⟩ := Kd.R_slice hr;obtain ⟨_, _, e0, hk, CX⟩ := Kd.R_reads hr;injection e0 with e1 e2 e3
  subst e1 e3;replace HO := hI (Kd.C_below HO.out hb);replace HX := hI (Kd.C_below HX.out hb);replace HB := hI (below_step HB.out hb);have HY := hI CX;have HKY := hI hk;clear hr hb hk CX e2;go_wp2_with fail
  refine (cmap_Read.calls s LB eb _ F3.out).mono ?_;rintro e w4 ⟨v, rfl, hr, hb⟩;obtain ⟨AZ, kZ, rfl⟩ := Kd.R_slice hr;obtain ⟨_, _, e0, hk, CX⟩ := Kd.R_reads hr;injection e0 with e1 e2 e3
  subst e1 e3;replace HO := hI (Kd.C_below HO.out hb);replace HX := hI (Kd.C_below HX.out hb);replace HY := hI (Kd.C_below HY.out hb);replace HB := hI (below_step HB.out hb);have HZ := hI CX;have HKZ := hI hk;clear hr hb hk CX e2;go_wp2_with fail
  refine (r11_Read.calls (300000 + 1) s LB eb _ F4.out).mono ?_;rintro e w5 ⟨v, rfl, hr, hb⟩;obtain ⟨AW, kW, rfl⟩ := Kd.R_slice hr;obtain ⟨_, _, e0, hk, CX⟩ := Kd.R_reads hr;injection e0 with e1 e2 e3
  subst e1 e3;replace HO := hI (Kd.C_below HO.out hb);replace HX := hI (Kd.C_below HX.out hb);replace HY := hI (Kd.C_below HY.out hb);replace HZ := hI (Kd.C_below HZ.out hb);replace HB := hI (below_step HB.out hb);have HW := hI CX;have HKW := hI hk;clear hr hb hk CX e2;go_wp2_with fail
  refine (cmap_Put.calls A1 c1 l n t ec _ (Kd.C_below HL.out HB.out) HC1.out F5.out).mono ?_;rintro e w6 ⟨rfl, hb⟩;replace HO := hI (Kd.C_below HO.out hb);replace HX := hI (Kd.C_below HX.out hb);replace HY := hI (Kd.C_below HY.out hb);replace HZ := hI (Kd.C_below HZ.out hb);replace HW := hI (Kd.C_below HW.out hb);replace HB := hI (below_step HB.out hb);clear hb;have HQ := fun W h => rput_calls AO kO l n W h HKO.out
  rw [HPM.out] at HQ;replace HQ := hI HQ;clear HPM;go_wp2_with fail
  refine (HQ.out _ HO.out).mono ?_;rintro e w7 ⟨rfl, hb⟩;replace HO := hI (Kd.C_below HO.out hb);replace HX := hI (Kd.C_below HX.out hb);replace HY := hI (Kd.C_below HY.out hb);replace HZ := hI (Kd.C_below HZ.out hb);replace HW := hI (Kd.C_below HW.out hb);replace HB := hI (below_step HB.out hb);clear hb;go_wp2_with fail
  refine (cmap_Glyph.calls A1 c1 l c g gn gk _ (Kd.C_below HL.out HB.out) HC1.out F7.out).mono ?_;rintro e w8 ⟨rfl, hb⟩;replace HO := hI (Kd.C_below HO.out hb);replace HX := hI (Kd.C_below HX.out hb);replace HY := hI (Kd.C_below HY.out hb);replace HZ := hI (Kd.C_below HZ.out hb);replace HW := hI (Kd.C_below HW.out hb);replace HB := hI (below_step HB.out hb);clear hb;go_wp2_with fail
  refine (r11_Glyph.calls 131100 AO kO l c g gn gk _ HO.out HKO.out F8.out).mono ?_;rintro e w9 ⟨rfl, hb⟩;replace HO := hI (Kd.C_below HO.out hb);replace HX := hI (Kd.C_below HX.out hb);replace HY := hI (Kd.C_below HY.out hb);replace HZ := hI (Kd.C_below HZ.out hb);replace HW := hI (Kd.C_below HW.out hb);replace HB := hI (below_step HB.out hb);clear hb;go_wp2_with fail
  refine (vinculumlaw11_mapped.calls true _ rfl).mono ?_;rintro e w10 ⟨rfl, hb⟩;replace HO := hI (Kd.C_below HO.out hb);replace HX := hI (Kd.C_below HX.out hb);replace HY := hI (Kd.C_below HY.out hb);replace HZ := hI (Kd.C_below HZ.out hb);replace HW := hI (Kd.C_below HW.out hb);replace HB := hI (below_step HB.out hb);clear hb;go_wp2_with fail
  refine (r08_Same.calls 70000 AX kX LA AY kY LA true _ HX.out HKX.out HY.out HKY.out S1.out).mono ?_;rintro e w11 ⟨rfl, hd⟩;have hb : Below w10.heap.size w10 w11 := by obtain ⟨nd, rfl⟩ := hd; exact pw_below_drewN (Below.refl _ _) nd
  replace HO := hI (Kd.C_below HO.out hb);replace HX := hI (Kd.C_below HX.out hb);replace HY := hI (Kd.C_below HY.out hb);replace HZ := hI (Kd.C_below HZ.out hb);replace HW := hI (Kd.C_below HW.out hb);replace HB := hI (below_step HB.out hb);clear hb hd;go_wp2_with fail
  refine (r08_Same.calls 70000 AZ kZ LB AW kW LB true _ HZ.out HKZ.out HW.out HKW.out S2.out).mono ?_;rintro e w12 ⟨rfl, hd⟩;have hb : Below w11.heap.size w11 w12 := by obtain ⟨nd, rfl⟩ := hd; exact pw_below_drewN (Below.refl _ _) nd
  replace HO := hI (Kd.C_below HO.out hb);replace HX := hI (Kd.C_below HX.out hb);replace HY := hI (Kd.C_below HY.out hb);replace HZ := hI (Kd.C_below HZ.out hb);replace HW := hI (Kd.C_below HW.out hb);replace HB := hI (below_step HB.out hb);clear hb hd;go_wp2_with fail
  refine (cmap_Best.calls 20 n c bb _ B1.out).mono ?_;rintro e w13 ⟨rfl, hb⟩;replace HO := hI (Kd.C_below HO.out hb);replace HX := hI (Kd.C_below HX.out hb);replace HY := hI (Kd.C_below HY.out hb);replace HZ := hI (Kd.C_below HZ.out hb);replace HW := hI (Kd.C_below HW.out hb);replace HB := hI (below_step HB.out hb);clear hb;go_wp2_with fail
  refine (r11_Best.calls 20 n c bb _ B2.out).mono ?_;rintro e w14 ⟨rfl, hb⟩;replace HO := hI (Kd.C_below HO.out hb);replace HX := hI (Kd.C_below HX.out hb);replace HY := hI (Kd.C_below HY.out hb);replace HZ := hI (Kd.C_below HZ.out hb);replace HW := hI (Kd.C_below HW.out hb);replace HB := hI (below_step HB.out hb);clear hb;go_wp2_with fail
  refine (r08_Same.calls 70000 A1 c1 l AO kO l true _ (Kd.C_below HL.out HB.out) HC1.out HO.out HKO.out S3.out).mono ?_;rintro e w15 ⟨rfl, hd⟩;have hb : Below w14.heap.size w14 w15 := by obtain ⟨nd, rfl⟩ := hd; exact pw_below_drewN (Below.refl _ _) nd
  replace HO := hI (Kd.C_below HO.out hb);replace HX := hI (Kd.C_below HX.out hb);replace HY := hI (Kd.C_below HY.out hb);replace HZ := hI (Kd.C_below HZ.out hb);replace HW := hI (Kd.C_below HW.out hb);replace HB := hI (below_step HB.out hb);clear hb hd;go_wp2;go_ret;exact ⟨rfl, HB.out⟩
end Go.Proofs.YtejdflndgnpkcaaGreat.P
end
