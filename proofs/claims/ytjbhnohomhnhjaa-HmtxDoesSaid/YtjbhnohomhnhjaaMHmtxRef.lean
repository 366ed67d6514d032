/- The references of chapters 03 and 06 tell what hmtx's Get and Put tell. -/
import Derived.Test.YtjbhnohomhnhjaaMHmtxPut
import Derived.Test.YtjbhnohomhnhjaaPRRef06
namespace Go.Proofs.Ytjbhnohomhnhjaa.P
open Go.RowKit Go.Proofs.YtjbhnohomhnhjaaW.PrintWords Go.Proofs.YtjbhnohomhnhjaaW.PrintLast Go.Proofs.YtjbhnohomhnhjaaW.PrintMore
set_option linter.unusedSimpArgs false
set_option linter.unusedVariables false
theorem power_two (k : Nat) (hk : 4 ≤ k) : vinculumref03_Power.f k 2 = some 65536 :=
  at_rounds (g := fun k => vinculumref03_Power.f k 2) (fun k => vinculumref03_Power.mono 2 k) hk (by decide +kernel)
theorem fits2_told (v : Int) (k : Nat) (hk : 4 ≤ k) : vinculumref03_Fits.f k v 2 = some (fitsN v 2) := by
  unfold vinculumref03_Fits.f
  rw [show vinculumref03_Wide.f 2 = some 2 from by decide +kernel]
  simp only [Option.bind_some]
  rw [power_two k hk]
  simp only [Option.bind_some]
  rw [if_neg (show ¬ (2 : Int) < 0 by decide)]
  unfold fitsN
  rw [if_neg (show ¬ (2 : Int) < 0 by decide)]
  have e : (256 : Int) ^ (2 : Int).natAbs = 65536 := by decide
  rw [e]
  by_cases h : v ≥ 0
  · rw [if_pos h, Option.some.injEq, decide_eq_decide]; omega
  · rw [if_neg h]; symm; rw [Option.some.injEq]; exact decide_eq_false (by omega)
theorem fitsm_told (v : Int) (k : Nat) (hk : 4 ≤ k) : vinculumref03_Fits.f k v (-2) = some (fitsN v (-2)) := by
  unfold vinculumref03_Fits.f
  rw [show vinculumref03_Wide.f (-2) = some 2 from by decide +kernel]
  simp only [Option.bind_some]
  rw [power_two k hk]
  simp only [Option.bind_some]
  rw [if_pos (show (-2 : Int) < 0 by decide), show wrap64 (Int.tdiv 65536 2) = 32768 from by decide +kernel, show wrap64 (-32768) = -32768 from by decide +kernel]
  unfold fitsN
  rw [if_pos (show (-2 : Int) < 0 by decide)]
  have e : (256 : Int) ^ (-2 : Int).natAbs = 65536 := by decide
  rw [e]
  by_cases h : v ≥ -32768
  · rw [if_pos h, Option.some.injEq, decide_eq_decide]; omega
  · rw [if_neg h]; symm; rw [Option.some.injEq]; exact decide_eq_false (by omega)
theorem bt_cut (t : ByteArray) (p i : Nat) (h : p + 2 ≤ t.size) (hi : i < 2) : bt (t.extract p (p + 2)) (i : Int) = bt t ((p + i : Nat) : Int) := by
  unfold bt
  have h1 : ((i : Nat) : Int).toNat < (t.extract p (p + 2)).size := by simp; omega
  have h2 : ((p + i : Nat) : Int).toNat < t.size := by simp; omega
  rw [dif_pos h1, dif_pos h2]
  simp only [Int.toNat_natCast, ByteArray.getElem_extract]
theorem one_end (t : ByteArray) (p : Nat) (sz : Int) (h : p + 2 ≤ t.size) (k : Nat) : vinculumref03_One.f (k + 2) (t.extract p (p + 2)) sz = vinculumref03_One.l0 k (t.extract p (p + 2)) sz (u16 t p) 2 := by
  have hsz : ((t.extract p (p + 2)).size : Int) = 2 := by
    have : (t.extract p (p + 2)).size = 2 := by simp; omega
    rw [this]; rfl
  have b0 := bt_range t (p : Int)
  have b1 := bt_range t ((p + 1 : Nat) : Int)
  have c0 : bt (t.extract p (p + 2)) 0 = bt t (p : Int) := bt_cut t p 0 h (by omega)
  have c1 : bt (t.extract p (p + 2)) 1 = bt t ((p + 1 : Nat) : Int) := bt_cut t p 1 h (by omega)
  unfold vinculumref03_One.f
  simp only [vinculumref03_One.l0]
  rw [hsz, if_pos (by decide), if_pos (by decide), show wrap64 (0 + 1) = 1 from by decide +kernel, if_pos (by decide), if_pos (by decide), c0, c1, show wrap64 (1 + 1) = 2 from by decide +kernel]
  have e1 : wrap64 (wrap64 (256 * 0) + wrap64 (bt t (p : Int))) = bt t (p : Int) := by unfold wrap64; omega
  have e2 : wrap64 (wrap64 (256 * bt t (p : Int)) + wrap64 (bt t ((p + 1 : Nat) : Int))) = u16 t p := by unfold wrap64 u16; omega
  rw [e1, e2]
theorem one_u (t : ByteArray) (p : Nat) (h : p + 2 ≤ t.size) (k : Nat) (hk : 8 ≤ k) : vinculumref03_One.f k (t.extract p (p + 2)) 2 = some (u16 t p) := by
  obtain ⟨k, rfl⟩ : ∃ n, k = n + 1 + 2 := ⟨k - 3, by omega⟩
  rw [one_end t p 2 h (k + 1)]
  have hsz : ((t.extract p (p + 2)).size : Int) = 2 := by
    have : (t.extract p (p + 2)).size = 2 := by simp; omega
    rw [this]; rfl
  simp only [vinculumref03_One.l0]
  rw [hsz, if_neg (by decide), if_neg (by decide)]
theorem one_i (t : ByteArray) (p : Nat) (h : p + 2 ≤ t.size) (k : Nat) (hk : 8 ≤ k) : vinculumref03_One.f k (t.extract p (p + 2)) (-2) = some (i16 t p) := by
  obtain ⟨k, rfl⟩ : ∃ n, k = n + 1 + 2 := ⟨k - 3, by omega⟩
  rw [one_end t p (-2) h (k + 1)]
  have hsz : ((t.extract p (p + 2)).size : Int) = 2 := by
    have : (t.extract p (p + 2)).size = 2 := by simp; omega
    rw [this]; rfl
  have hu := u16_range t p
  simp only [vinculumref03_One.l0]
  rw [hsz, if_neg (by decide), if_pos (by decide), power_two k (by omega)]
  simp only [Option.bind_some]
  rw [show wrap64 (Int.tdiv 65536 2) = 32768 from by decide +kernel]
  unfold i16
  by_cases hc : 32768 ≤ u16 t p
  · rw [if_pos hc, if_pos hc]
    congr 1
    unfold wrap64; omega
  · rw [if_neg hc, if_neg hc]
theorem rd_map (f : Nat → S34) (n i : Nat) (h : i < n) : rd_T34 ((List.range n).map f) (i : Int) = f i := by
  unfold rd_T34
  rw [Int.toNat_natCast, List.getD_eq_getElem?_getD, List.getElem?_map, List.getElem?_range h]; rfl
theorem get_loop (t : ByteArray) (g m : Nat) (hm : 1 ≤ m) (hmg : m ≤ g) (hg : g ≤ 65535) (hs : 4 * m + 2 * (g - m) ≤ t.size) (d : Nat) : ∀ k i, g - i = d → i ≤ g → d + 10 < k → vinculumref06_Get.l0 k t (g : Int) (m : Int) ((List.range i).map (metricAt t m)) (i : Int) = some ((List.range g).map (metricAt t m), 0) := by
  induction d with
  | zero =>
    intro k i hd hi hk
    obtain ⟨k, rfl⟩ : ∃ n, k = n + 1 := ⟨k - 1, by omega⟩
    have : i = g := by omega
    subst this
    simp only [vinculumref06_Get.l0]
    rw [if_neg (by omega)]
  | succ d ih =>
    intro k i hd hi hk
    obtain ⟨k, rfl⟩ : ∃ n, k = n + 1 := ⟨k - 1, by omega⟩
    have hw : wrap64 ((i : Int) + 1) = ((i + 1 : Nat) : Int) := by unfold wrap64; omega
    have hr : (List.range (i + 1)).map (metricAt t m) = (List.range i).map (metricAt t m) ++ [metricAt t m i] := by rw [List.range_succ, List.map_append]; rfl
    have hlen : ((List.range i).map (metricAt t m)).length = i := by simp
    have ih' := ih k (i + 1) (by omega) (by omega) (by omega)
    simp only [vinculumref06_Get.l0]
    rw [if_pos (by omega), hw, hlen]
    by_cases him : i < m
    · have w1 : wrap64 (4 * (i : Int)) = ((4 * i : Nat) : Int) := by unfold wrap64; omega
      have w2 : wrap64 (((4 * i : Nat) : Int) + 2) = ((4 * i + 2 : Nat) : Int) := by unfold wrap64; omega
      have w3 : wrap64 (((4 * i : Nat) : Int) + 4) = ((4 * i + 2 + 2 : Nat) : Int) := by unfold wrap64; omega
      have w4 : wrap64 (((4 * i + 2 : Nat) : Int) + 2) = ((4 * i + 2 + 2 : Nat) : Int) := by unfold wrap64; omega
      rw [if_pos (by omega), w1, w2, w3, if_pos (by omega), if_pos (by omega), if_pos (by omega), Int.toNat_natCast, Int.toNat_natCast, one_u t (4 * i) (by omega) k (by omega)]
      simp only [Option.bind_some]
      rw [if_pos (by omega), if_pos (by omega), if_pos (by omega), Int.toNat_natCast, one_i t (4 * i + 2) (by omega) k (by omega)]
      simp only [Option.bind_some]
      rw [if_pos (by omega)]
      have e : (⟨u16 t (4 * i), i16 t (4 * i + 2)⟩ : S34) = metricAt t m i := by unfold metricAt; rw [if_pos him]
      rw [e, ← hr]; exact ih'
    · have w0 : wrap64 ((m : Int) - 1) = ((m - 1 : Nat) : Int) := by unfold wrap64; omega
      have w1 : wrap64 (4 * (m : Int)) = ((4 * m : Nat) : Int) := by unfold wrap64; omega
      have w2 : wrap64 ((i : Int) - (m : Int)) = ((i - m : Nat) : Int) := by unfold wrap64; omega
      have w3 : wrap64 (2 * ((i - m : Nat) : Int)) = ((2 * (i - m) : Nat) : Int) := by unfold wrap64; omega
      have w4 : wrap64 (((4 * m : Nat) : Int) + ((2 * (i - m) : Nat) : Int)) = ((4 * m + 2 * (i - m) : Nat) : Int) := by unfold wrap64; omega
      have w5 : wrap64 (((4 * m + 2 * (i - m) : Nat) : Int) + 2) = ((4 * m + 2 * (i - m) + 2 : Nat) : Int) := by unfold wrap64; omega
      rw [if_neg (by omega), w0, w1, w2, w3, w4, w5, if_pos (by omega), if_pos (by omega), if_pos (by omega), if_pos (by omega), if_pos (by omega), Int.toNat_natCast, Int.toNat_natCast, one_i t (4 * m + 2 * (i - m)) (by omega) k (by omega)]
      simp only [Option.bind_some]
      rw [if_pos (by omega), rd_map (metricAt t m) i (m - 1) (by omega)]
      have e : (⟨(metricAt t m (m - 1)).f0, i16 t (4 * m + 2 * (i - m))⟩ : S34) = metricAt t m i := by
        unfold metricAt
        rw [if_neg him, if_pos (by omega)]
      rw [e, ← hr]; exact ih'
theorem refget_told (s : ByteArray) (g m : Int) (k : Nat) (hk : 65600 ≤ k) : vinculumref06_Get.f k s g m = hmtx_Get.f s g m := by
  obtain ⟨k, rfl⟩ : ∃ n, k = n + 1 := ⟨k - 1, by omega⟩
  have ht : vinculumref06_Get.j0 (k + 1) s g m true = some ([], 1) := by simp only [vinculumref06_Get.j0]; rw [if_pos trivial]
  unfold vinculumref06_Get.f
  by_cases hb : g < 1 ∨ 65535 < g ∨ m < 1 ∨ g < m
  · have hg : hmtx_Get.f s g m = some ([], 1) := by unfold hmtx_Get.f; rw [if_pos hb]
    rw [hg]
    by_cases h1 : g < 1
    · rw [if_pos h1, ht]
    rw [if_neg h1]
    by_cases h2 : g > 65535
    · rw [if_pos h2, ht]
    rw [if_neg h2]
    by_cases h3 : m < 1
    · rw [if_pos h3, ht]
    rw [if_neg h3, show decide (m > g) = true from decide_eq_true (by omega), ht]
  · rw [if_neg (by omega), if_neg (by omega), if_neg (by omega), show decide (m > g) = false from decide_eq_false (by omega)]
    simp only [vinculumref06_Get.j0]
    rw [if_neg (by decide)]
    obtain ⟨g, rfl⟩ := Int.eq_ofNat_of_zero_le (show 0 ≤ g by omega)
    obtain ⟨m, rfl⟩ := Int.eq_ofNat_of_zero_le (show 0 ≤ m by omega)
    have w1 : wrap64 (4 * (m : Int)) = 4 * (m : Int) := by unfold wrap64; omega
    have w2 : wrap64 ((g : Int) - (m : Int)) = (g : Int) - (m : Int) := by unfold wrap64; omega
    have w3 : wrap64 (2 * ((g : Int) - (m : Int))) = 2 * ((g : Int) - (m : Int)) := by unfold wrap64; omega
    have w4 : wrap64 (4 * (m : Int) + 2 * ((g : Int) - (m : Int))) = 4 * (m : Int) + 2 * ((g : Int) - (m : Int)) := by unfold wrap64; omega
    rw [w1, w2, w3, w4]
    by_cases hs : (s.size : Int) < 4 * (m : Int) + 2 * ((g : Int) - (m : Int))
    · rw [if_pos hs]
      unfold hmtx_Get.f
      rw [if_neg hb, if_pos hs]
    · rw [if_neg hs, get_told s g m (by omega) (by omega) (by omega) (by omega)]
      exact get_loop s g m (by omega) (by omega) (by omega) (by omega) g k 0 (by omega) (by omega) (by omega)
/-! ### Put -/
theorem ba_join (a b : List UInt8) : ((⟨a.toArray⟩ : ByteArray) ++ (⟨b.toArray⟩ : ByteArray)) = ⟨(a ++ b).toArray⟩ := by
  apply ByteArray.ext
  rw [ByteArray.data_append]
  simp
theorem many_loop (l : List S34) (h0 : 0 < l.length) (hl : l.length ≤ 65535) (d : Nat) : ∀ k x, x - leastN l = d → leastN l ≤ x → x ≤ l.length → d < k → vinculumref06_Many.l0 k l (x : Int) = some (leastN l : Int) := by
  have hn := leastN_le l h0
  have hs := leastN_spec l h0
  induction d with
  | zero =>
    intro k x hd h1 h2 hk
    obtain ⟨k, rfl⟩ : ∃ n, k = n + 1 := ⟨k - 1, by omega⟩
    have : x = leastN l := by omega
    subst this
    simp only [vinculumref06_Many.l0]
    by_cases hc : (leastN l : Int) > 1
    · have w1 : wrap64 ((leastN l : Int) - 2) = ((leastN l - 2 : Nat) : Int) := by unfold wrap64; omega
      have w2 : wrap64 ((leastN l : Int) - 1) = ((leastN l - 1 : Nat) : Int) := by unfold wrap64; omega
      rw [if_pos hc, w1, w2, if_pos (by omega), if_pos (by omega), if_pos (by omega), if_pos (by omega), if_neg (fun e => hs.2 (by omega) (by
        have := hs.1 (leastN l - 1) (Nat.le_refl _) (by omega)
        rw [← this]; exact e))]
    · rw [if_neg hc]
  | succ d ih =>
    intro k x hd h1 h2 hk
    obtain ⟨k, rfl⟩ : ∃ n, k = n + 1 := ⟨k - 1, by omega⟩
    simp only [vinculumref06_Many.l0]
    have w1 : wrap64 ((x : Int) - 2) = ((x - 2 : Nat) : Int) := by unfold wrap64; omega
    have w2 : wrap64 ((x : Int) - 1) = ((x - 1 : Nat) : Int) := by unfold wrap64; omega
    rw [if_pos (by omega), w1, w2, if_pos (by omega), if_pos (by omega), if_pos (by omega), if_pos (by omega), if_pos (by
      have a := hs.1 (x - 2) (by omega) (by omega)
      have b := hs.1 (x - 1) (by omega) (by omega)
      unfold adv at a b
      rw [a, b])]
    exact ih k (x - 1) (by omega) (by omega) (by omega) (by omega)
theorem many_told (l : List S34) (h0 : 0 < l.length) (hl : l.length ≤ 65535) (k : Nat) (hk : l.length < k) : vinculumref06_Many.f k l = some (leastN l : Int) :=
  many_loop l h0 hl (l.length - leastN l) k l.length rfl (leastN_le l h0).2 (Nat.le_refl _) (by omega)
theorem bytes_pos (v : Int) (h0 : 0 ≤ v) (h1 : v < 65536) (k : Nat) (hk : 8 ≤ k) : vinculumref03_Bytes.j0 k v 2 = some ⟨(bytesN v 2).toArray⟩ := by
  obtain ⟨k, rfl⟩ : ∃ n, k = n + 4 := ⟨k - 4, by omega⟩
  simp only [vinculumref03_Bytes.j0, vinculumref03_Bytes.l0, Option.bind_some]
  have t1 : Int.tmod v 256 = v % 256 := Int.tmod_eq_emod_of_nonneg h0
  have t2 : Int.tdiv v 256 = v / 256 := Int.tdiv_eq_ediv_of_nonneg h0
  have w1 : wrap64 (v / 256) = v / 256 := by unfold wrap64; omega
  have t3 : Int.tmod (v / 256) 256 = (v / 256) % 256 := Int.tmod_eq_emod_of_nonneg (by omega)
  rw [t1, t2, w1, t3]
  have hsz : ∀ z : Int, (strOfNums [z]).size = 1 := fun z => by simp [strOfNums, ByteArray.size]
  have hb : ∀ z : Int, strOfNums [z] = ⟨[UInt8.ofNat z.toNat].toArray⟩ := fun z => by simp [strOfNums]
  have e0 : (strOfNums [v % 256 % 256] ++ (⟨#[]⟩ : ByteArray)) = ⟨[byteOf v 0].toArray⟩ := by
    rw [hb]
    have : (⟨#[]⟩ : ByteArray) = ⟨([] : List UInt8).toArray⟩ := rfl
    rw [this, ba_join]
    have e : UInt8.ofNat (v % 256 % 256).toNat = byteOf v 0 := by
      unfold byteOf
      have : (256 : Int) ^ 0 = 1 := by decide
      rw [this, Int.ediv_one, show v % 256 % 256 = v % 256 by omega]
    rw [e]; rfl
  have e1 : (strOfNums [v / 256 % 256 % 256] ++ (⟨[byteOf v 0].toArray⟩ : ByteArray)) = ⟨(bytesN v 2).toArray⟩ := by
    rw [hb, ba_join]
    have e : UInt8.ofNat (v / 256 % 256 % 256).toNat = byteOf v 1 := by
      unfold byteOf
      have : (256 : Int) ^ 1 = 256 := by decide
      rw [this, show v / 256 % 256 % 256 = v / 256 % 256 by omega]
    rw [e]; rfl
  rw [if_pos (by decide), if_pos (by rw [hsz]; decide), show wrap64 (0 + 1) = 1 from by decide +kernel, if_pos (by decide), e0, if_pos (by rw [hsz, ba_size]; show 1 + 1 ≤ 9223372036854775807; decide), e1, show wrap64 (1 + 1) = 2 from by decide +kernel, if_neg (by decide)]
theorem bytes_shift (v : Int) : bytesN (v + 65536) 2 = bytesN v 2 := by
  have h : ∀ j, j < 2 → byteOf (v + 65536) j = byteOf v j := fun j hj => by
    unfold byteOf
    have : (v + 65536) / 256 ^ j % 256 = v / 256 ^ j % 256 := by
      match j, hj with
      | 0, _ => simp; omega
      | 1, _ => have e : (256 : Int) ^ 1 = 256 := by decide
                rw [e]; omega
    rw [this]
  simp [bytesN, h]
theorem bytes_told (v : Int) (h : fitsN v 2 = true ∨ fitsN v (-2) = true) (k : Nat) (hk : 8 ≤ k) : vinculumref03_Bytes.f k v 2 = some ⟨(bytesN v 2).toArray⟩ := by
  have hr : -32768 ≤ v ∧ v < 65536 := by
    rcases h with h | h
    · have := fits_u v h; omega
    · have := fits_i v h; omega
  unfold vinculumref03_Bytes.f
  by_cases hn : v < 0
  · rw [if_pos hn, power_two k (by omega)]
    simp only [Option.bind_some]
    rw [show wrap64 (v + 65536) = v + 65536 by unfold wrap64; omega, bytes_pos (v + 65536) (by omega) (by omega) k hk, bytes_shift]
  · rw [if_neg hn]
    exact bytes_pos v (by omega) (by omega) k hk
def bytesI (l : List S34) (n i : Nat) : List UInt8 := B1 (l.take (min i n)) ++ B2 ((l.take i).drop n)
theorem bytesI_low (l : List S34) (n i : Nat) (h : i < n) (hi : i < l.length) : bytesI l n (i + 1) = bytesI l n i ++ bytesN l[i].f0 2 ++ bytesN l[i].f1 2 := by
  have ht : l.take (i + 1) = l.take i ++ [l[i]] := by rw [List.take_add_one, List.getElem?_eq_getElem hi]; rfl
  unfold bytesI
  have d1 : (l.take i).drop n = [] := List.drop_eq_nil_of_le (by simp; omega)
  have d2 : (l.take (i + 1)).drop n = [] := List.drop_eq_nil_of_le (by simp; omega)
  rw [d1, d2, show min (i + 1) n = i + 1 by omega, show min i n = i by omega, ht]
  unfold B1 B2
  rw [List.flatMap_append]
  simp only [List.flatMap_cons, List.flatMap_nil, List.append_nil, List.append_assoc]
theorem bytesI_high (l : List S34) (n i : Nat) (h : n ≤ i) (hi : i < l.length) : bytesI l n (i + 1) = bytesI l n i ++ bytesN l[i].f1 2 := by
  have ht : l.take (i + 1) = l.take i ++ [l[i]] := by rw [List.take_add_one, List.getElem?_eq_getElem hi]; rfl
  unfold bytesI
  rw [show min (i + 1) n = n by omega, show min i n = n by omega, ht, List.drop_append_of_le_length (by simp; omega)]
  unfold B1 B2
  rw [List.flatMap_append]
  simp only [List.flatMap_cons, List.flatMap_nil, List.append_nil, List.append_assoc]
theorem bytesI_end (l : List S34) (hn : leastN l ≤ l.length) : bytesI l (leastN l) l.length = bytesM l := by
  unfold bytesI bytesM
  rw [show min l.length (leastN l) = leastN l by omega, List.take_length]
theorem bytesI_length (l : List S34) (n i : Nat) : (bytesI l n i).length ≤ 4 * i := by
  unfold bytesI
  rw [List.length_append, B1_length, B2_length, List.length_drop, List.length_take, List.length_take]; omega
theorem put_loop (l : List S34) (h0 : 0 < l.length) (hl : l.length ≤ 65535) (hok : ok1 l = true) (d : Nat) : ∀ k i, l.length - i = d → i ≤ l.length → d + 10 < k → vinculumref06_Put.l1 k l (leastN l : Int) ⟨(bytesI l (leastN l) i).toArray⟩ (i : Int) = some (⟨(bytesM l).toArray⟩, (leastN l : Int), 0) := by
  have hn := leastN_le l h0
  induction d with
  | zero =>
    intro k i hd hi hk
    obtain ⟨k, rfl⟩ : ∃ n, k = n + 1 := ⟨k - 1, by omega⟩
    have : i = l.length := by omega
    subst this
    simp only [vinculumref06_Put.l1]
    rw [if_neg (by omega), bytesI_end l hn.2]
  | succ d ih =>
    intro k i hd hi hk
    obtain ⟨k, rfl⟩ : ∃ n, k = n + 1 := ⟨k - 1, by omega⟩
    have hil : i < l.length := by omega
    obtain ⟨o1, o2⟩ := ok_at l hok i hil
    have hw : wrap64 ((i : Int) + 1) = ((i + 1 : Nat) : Int) := by unfold wrap64; omega
    have ih' := ih k (i + 1) (by omega) (by omega) (by omega)
    have hb := bytesI_length l (leastN l) i
    simp only [vinculumref06_Put.l1]
    rw [if_pos (by omega), rd_get l i hil, hw]
    by_cases hin : i < leastN l
    · rw [if_pos (by omega), if_pos (by omega), bytes_told _ (.inl o1) k (by omega)]
      simp only [Option.bind_some]
      rw [if_pos (by rw [ba_size, ba_size, bytesN_length]; omega), bytes_told _ (.inr o2) k (by omega)]
      simp only [Option.bind_some]
      rw [ba_join, if_pos (by rw [ba_size, ba_size, bytesN_length, List.length_append, bytesN_length]; omega), ba_join, ← bytesI_low l (leastN l) i hin hil]
      exact ih'
    · rw [if_neg (by omega), if_pos (by omega), bytes_told _ (.inr o2) k (by omega)]
      simp only [Option.bind_some]
      rw [if_pos (by rw [ba_size, ba_size, bytesN_length]; omega), ba_join, ← bytesI_high l (leastN l) i (by omega) hil]
      exact ih'
theorem put_checks (l : List S34) (h0 : 0 < l.length) (hl : l.length ≤ 65535) (d : Nat) : ∀ k i, l.length - i = d → i ≤ l.length → 65600 + d < k → vinculumref06_Put.l0 k l (i : Int) = some (if ok1 (l.drop i) = true then (if ok1 l = true then (⟨(bytesM l).toArray⟩, (leastN l : Int), 0) else (⟨(bytesM l).toArray⟩, (leastN l : Int), 0)) else (⟨#[]⟩, 0, 2)) ∨ (ok1 (l.drop i) = true ∧ ok1 l = false) := by
  induction d with
  | zero =>
    intro k i hd hi hk
    obtain ⟨k, rfl⟩ : ∃ n, k = n + 1 := ⟨k - 1, by omega⟩
    have : i = l.length := by omega
    subst this
    cases ho : ok1 l with
    | false => exact .inr ⟨by simp [ok1], rfl⟩
    | true =>
      left
      simp only [vinculumref06_Put.l0]
      rw [if_neg (by omega), many_told l h0 hl k (by omega), if_pos (by simp [ok1])]
      simp only [Option.bind_some]
      have := put_loop l h0 hl ho l.length k 0 (by omega) (by omega) (by omega)
      simpa [bytesI, B1, B2] using this
  | succ d ih =>
    intro k i hd hi hk
    obtain ⟨k, rfl⟩ : ∃ n, k = n + 1 := ⟨k - 1, by omega⟩
    have hil : i < l.length := by omega
    have hw : wrap64 ((i : Int) + 1) = ((i + 1 : Nat) : Int) := by unfold wrap64; omega
    have hd2 : l.drop i = l[i] :: l.drop (i + 1) := List.drop_eq_getElem_cons hil
    have ho : ok1 (l.drop i) = (fitsN l[i].f0 2 && fitsN l[i].f1 (-2) && ok1 (l.drop (i + 1))) := by rw [hd2]; unfold ok1; rw [List.all_cons]
    simp only [vinculumref06_Put.l0]
    rw [if_pos (by omega), if_pos (by omega), rd_get l i hil, fits2_told _ k (by omega), hw, ho]
    simp only [Option.bind_some]
    cases h1 : fitsN l[i].f0 2 with
    | false => left; simp
    | true =>
      rw [if_pos rfl, fitsm_told _ k (by omega)]
      simp only [Option.bind_some]
      cases h2 : fitsN l[i].f1 (-2) with
      | false => left; simp
      | true =>
        rw [if_pos rfl]
        simpa using ih k (i + 1) (by omega) (by omega) (by omega)
theorem refput_told (l : List S34) (k : Nat) (hk : 131300 ≤ k) : vinculumref06_Put.f k l = hmtx_Put.f l := by
  obtain ⟨k, rfl⟩ : ∃ n, k = n + 1 := ⟨k - 1, by omega⟩
  have ht : vinculumref06_Put.j0 (k + 1) l true = some (⟨#[]⟩, 0, 1) := by simp only [vinculumref06_Put.j0]; rw [if_pos trivial]
  rw [put_told]
  unfold vinculumref06_Put.f
  by_cases hb : l.length = 0 ∨ 65535 < l.length
  · rw [if_pos hb]
    by_cases h1 : (l.length : Int) < 1
    · rw [if_pos h1, ht]
    · rw [if_neg h1, show decide ((l.length : Int) > 65535) = true from decide_eq_true (by omega), ht]
  · rw [if_neg hb, if_neg (by omega), show decide ((l.length : Int) > 65535) = false from decide_eq_false (by omega)]
    simp only [vinculumref06_Put.j0]
    rw [if_neg (by decide)]
    rcases put_checks l (by omega) (by omega) l.length k 0 (by omega) (by omega) (by omega) with h | ⟨h1, h2⟩
    · have h' : vinculumref06_Put.l0 k l 0 = _ := h
      rw [h', List.drop_zero]
      cases ho : ok1 l with
      | false => simp
      | true => simp
    · rw [List.drop_zero, h2] at h1
      exact absurd h1 (by decide)
end Go.Proofs.Ytjbhnohomhnhjaa.P
