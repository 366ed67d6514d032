/- Words, contracts and plain facts of the proof. Each says its own condition. -/
import Derived.Test.YtejdflndgnpkcaaGreatZCmapDoesg
import Derived.Test.YtejdflndgnpkcaaGreatZCmapDoesn
import Derived.Test.YtejdflndgnpkcaaGreatZCmapDoesh
import Derived.Test.YtejdflndgnpkcaaGreatZCmapDoese
set_option linter.unusedVariables false
set_option linter.unusedSimpArgs false
namespace Go.Proofs.YtejdflndgnpkcaaGreat.P
open Go.RowKit PW PL PM
theorem ba_size (L : List UInt8) : (⟨L.toArray⟩ : ByteArray).size = L.length := by simp [ByteArray.size]
theorem ba_of (t : ByteArray) : (⟨t.data.toList.toArray⟩ : ByteArray) = t := by simp
theorem ba_join (a b : List UInt8) : ((⟨a.toArray⟩ : ByteArray) ++ (⟨b.toArray⟩ : ByteArray)) = ⟨(a ++ b).toArray⟩ := by
 apply ByteArray.ext
 rw [ByteArray.data_append];simp
theorem ba_more (a : List UInt8) (m : ByteArray) : ((⟨a.toArray⟩ : ByteArray) ++ m) = ⟨(a ++ m.data.toList).toArray⟩ := by
 apply ByteArray.ext
 rw [ByteArray.data_append];simp
theorem ba_cut (L : List UInt8) (i j : Nat) : (⟨L.toArray⟩ : ByteArray).extract i j = ⟨((L.take j).drop i).toArray⟩ := by
 apply ByteArray.ext
 rw [ByteArray.data_extract];apply Array.ext'
 simp [List.drop_take]
theorem ba_drop (a r : List UInt8) : (⟨(a ++ r).toArray⟩ : ByteArray).extract a.length (⟨(a ++ r).toArray⟩ : ByteArray).size = ⟨r.toArray⟩ := by
 rw [ba_size, ba_cut, List.take_length, List.drop_left]
theorem bt_at (L : List UInt8) (j : Nat) (h : j < L.length) : bt (⟨L.toArray⟩ : ByteArray) (j : Int) = (L[j].toNat : Int) := by
 unfold bt;have h1 : ((j : Nat) : Int).toNat < (⟨L.toArray⟩ : ByteArray).size := by rw [ba_size]; exact h
 rw [dif_pos h1];simp only [Int.toNat_natCast];rfl
theorem num_bytes (v : Int) (n : Nat) (hn : n = 1 ∨ n = 2 ∨ n = 3 ∨ n = 4) (r : List UInt8) : numAt ⟨(bytesN v n ++ r).toArray⟩ n = v % 256 ^ n := by
 have hb : ∀ j (h : j < (bytesN v n ++ r).length), bt (⟨(bytesN v n ++ r).toArray⟩ : ByteArray) (j : Int) = ((bytesN v n ++ r)[j].toNat : Int) := fun j h => bt_at _ j h
 have e1 : (256 : Int) ^ 1 = 256 := by decide
 have e2 : (256 : Int) ^ 2 = 65536 := by decide
 have e3 : (256 : Int) ^ 3 = 16777216 := by decide
 have e4 : (256 : Int) ^ 4 = 4294967296 := by decide
 have f0 := byteOf_nat v 0;have f1 := byteOf_nat v 1;have f2 := byteOf_nat v 2;have f3 := byteOf_nat v 3;rw [Int.pow_zero, Int.ediv_one] at f0;rw [e1] at f1;rw [e2] at f2;rw [e3] at f3;rcases hn with rfl | rfl | rfl | rfl
 ·
  have h0 := hb 0 (by simp [bytesN]);simp only [bytesN, List.cons_append, List.nil_append, List.getElem_cons_zero, List.getElem_cons_succ] at h0;simp only [numAt];simp only [bytesN, List.cons_append, List.nil_append];rw [e1, h0]; omega
 ·
  have h0 := hb 0 (by simp [bytesN]);have h1 := hb 1 (by simp [bytesN]);simp only [bytesN, List.cons_append, List.nil_append, List.getElem_cons_zero, List.getElem_cons_succ] at h0 h1;simp only [numAt];simp only [bytesN, List.cons_append, List.nil_append];rw [e2, h0, h1]; omega
 ·
  have h0 := hb 0 (by simp [bytesN]);have h1 := hb 1 (by simp [bytesN]);have h2 := hb 2 (by simp [bytesN]);simp only [bytesN, List.cons_append, List.nil_append, List.getElem_cons_zero, List.getElem_cons_succ] at h0 h1 h2;simp only [numAt];simp only [bytesN, List.cons_append, List.nil_append];rw [e3, h0, h1, h2]; omega
 have h0 := hb 0 (by simp [bytesN]);have h1 := hb 1 (by simp [bytesN]);have h2 := hb 2 (by simp [bytesN]);have h3 := hb 3 (by simp [bytesN]);simp only [bytesN, List.cons_append, List.nil_append, List.getElem_cons_zero, List.getElem_cons_succ] at h0 h1 h2 h3;simp only [numAt];simp only [bytesN, List.cons_append, List.nil_append];rw [e4, h0, h1, h2, h3]; omega
theorem size_of {s : Int} (h : isSize s = true) : s.natAbs = 1 ∨ s.natAbs = 2 ∨ s.natAbs = 3 ∨ s.natAbs = 4 := by
 have := of_decide_eq_true h;omega
theorem pow_even {n : Nat} (hn : n = 1 ∨ n = 2 ∨ n = 3 ∨ n = 4) : ∃ h : Int, (256 : Int) ^ n = 2 * h ∧ 0 < h := by
 rcases hn with rfl | rfl | rfl | rfl
 · exact ⟨128, by decide, by decide⟩
 · exact ⟨32768, by decide, by decide⟩
 · exact ⟨8388608, by decide, by decide⟩
 exact ⟨2147483648, by decide, by decide⟩
theorem take_bytes {v s : Int} (hs : isSize s = true) (hf : fitsN v s = true) (r : List UInt8) : takeN ⟨(bytesN v s.natAbs ++ r).toArray⟩ s = v := by
 have hn := size_of hs;obtain ⟨H, hH, h0⟩ := pow_even hn;unfold takeN;unfold fitsN at hf;rw [num_bytes v s.natAbs hn r];rw [hH] at hf ⊢;by_cases hz : s < 0
 ·
  rw [if_pos hz] at hf;have := of_decide_eq_true hf;by_cases hv : v < 0
  ·
   have e : v % (2 * H) = v + 2 * H := by
    rw [← Int.add_emod_right (a := v) (b := 2 * H)];exact Int.emod_eq_of_lt (by omega) (by omega)
   rw [e, if_pos ⟨hz, by omega⟩]; omega
  have e : v % (2 * H) = v := Int.emod_eq_of_lt (by omega) (by omega);rw [e, if_neg (by rintro ⟨_, h⟩; omega)]
 rw [if_neg hz] at hf;have := of_decide_eq_true hf;have e : v % (2 * H) = v := Int.emod_eq_of_lt (by omega) (by omega);rw [e, if_neg (by rintro ⟨h, _⟩; exact hz h)]
theorem takes_rep (t : ByteArray) (s : Int) : ∀ (m p : Nat), p + s.natAbs * m ≤ t.size → takes (t.extract p t.size) (repN [s] m) = some ((List.range m).map (fun i => takeN (t.extract (p + s.natAbs * i) t.size) s))
 | 0, p, _ => rfl
 | m + 1, p, h => by
  have hm : s.natAbs * (m + 1) = s.natAbs * m + s.natAbs := Nat.mul_succ _ _
  have hx : (t.extract p t.size).extract s.natAbs (t.extract p t.size).size = t.extract (p + s.natAbs) t.size := by
   rw [ByteArray.extract_extract];congr 1
   simp; omega
  have hz : (t.extract p t.size).size = t.size - p := by simp
  simp only [repN, List.cons_append, List.nil_append, takes];rw [if_pos (by rw [hz]; omega), hx, takes_rep t s m (p + s.natAbs) (by omega), List.range_succ_eq_map, List.map_cons, List.map_map];simp only [Option.map_some, Option.some.injEq, Nat.mul_zero, Nat.add_zero, List.cons.injEq, true_and];apply List.map_congr_left
  intro i _;simp only [Function.comp_apply, Nat.mul_succ, Nat.succ_eq_add_one];congr 2
  omega
theorem takes_rep_none (t : ByteArray) (s : Int) : ∀ (m p : Nat), p ≤ t.size → t.size < p + s.natAbs * m → takes (t.extract p t.size) (repN [s] m) = none
 | 0, p, h1, h2 => by omega
 | m + 1, p, h1, h2 => by
  have hm : s.natAbs * (m + 1) = s.natAbs * m + s.natAbs := Nat.mul_succ _ _
  have hx : (t.extract p t.size).extract s.natAbs (t.extract p t.size).size = t.extract (p + s.natAbs) t.size := by
   rw [ByteArray.extract_extract];congr 1
   simp; omega
  have hz : (t.extract p t.size).size = t.size - p := by simp
  simp only [repN, List.cons_append, List.nil_append, takes];by_cases h : s.natAbs ≤ t.size - p
  · rw [if_pos (by rw [hz]; exact h), hx, takes_rep_none t s m (p + s.natAbs) (by omega) (by omega)]; rfl
  rw [if_neg (by rw [hz]; exact h)]
theorem rep_sizes {s : Int} (h : isSize s = true) : ∀ m, areSizes (repN [s] m) = true
 | 0 => rfl
 | m + 1 => by
  have := rep_sizes h m;unfold areSizes at this ⊢;simp only [repN, List.cons_append, List.nil_append, List.all_cons, Bool.and_eq_true];exact ⟨h, this⟩
theorem get_rep (t : ByteArray) {s : Int} (hs : isSize s = true) (p m : Nat) : getN t (p : Int) (repN [s] m) = if p + s.natAbs * m ≤ t.size then ((List.range m).map (fun i => takeN (t.extract (p + s.natAbs * i) t.size) s), 0) else ([], 4) := by
  unfold getN
  rw [if_neg (by rintro (h | h); · omega
                 · rw [rep_sizes hs m] at h; exact absurd h (by decide))]
  by_cases hp : p ≤ t.size
  · rw [if_neg (by omega), Int.toNat_natCast]
    by_cases h : p + s.natAbs * m ≤ t.size
    · rw [if_pos h, takes_rep t s m p h]
    rw [if_neg h, takes_rep_none t s m p hp (by omega)]
  rw [if_pos (by omega), if_neg (by have := Nat.zero_le (s.natAbs * m); omega)]
theorem power_told (n : Nat) (hn : n = 1 ∨ n = 2 ∨ n = 3 ∨ n = 4) (k : Nat) (hk : 8 ≤ k) : r03_Power.f k (n : Int) = some (256 ^ n) := by
 rcases hn with rfl | rfl | rfl | rfl
 · exact at_rounds (g := fun k => r03_Power.f k 1) (fun k => r03_Power.mono 1 k) hk (by decide +kernel)
 · exact at_rounds (g := fun k => r03_Power.f k 2) (fun k => r03_Power.mono 2 k) hk (by decide +kernel)
 · exact at_rounds (g := fun k => r03_Power.f k 3) (fun k => r03_Power.mono 3 k) hk (by decide +kernel)
 exact at_rounds (g := fun k => r03_Power.f k 4) (fun k => r03_Power.mono 4 k) hk (by decide +kernel)
theorem one_walk (t : ByteArray) (s : Int) (n : Nat) (hn : n ≤ 4) (hsz : t.size = n) (d : Nat) : ∀ k i, n - i = d → i ≤ n → r03_One.l0 (k + d) t s (numAt t i) (i : Int) = r03_One.l0 k t s (numAt t n) (n : Int) := by
 induction d with
 | zero =>
  intro k i hd hi;have : i = n := by omega
  subst this;rfl
 | succ d ih =>
  intro k i hd hi;have a1 : n - (i + 1) = d := by omega
  have a2 : i + 1 ≤ n := by omega
  have a3 : (i : Int) < (t.size : Int) := by omega
  have a4 : (0 : Int) ≤ (i : Int) := by omega
  have e2 : wrap64 ((i : Int) + 1) = ((i + 1 : Nat) : Int) := by unfold wrap64; omega
  have a5 : k + (d + 1) = (k + d) + 1 := by omega
  have hb := numAt_bd t i;have b := bt_range t (i : Int)
  have hp : (256 : Int) ^ i ≤ 16777216 := by
   have : i = 0 ∨ i = 1 ∨ i = 2 ∨ i = 3 := by omega
   rcases this with rfl | rfl | rfl | rfl <;> decide
  have e1 : wrap64 (wrap64 (256 * numAt t i) + wrap64 (bt t (i : Int))) = numAt t (i + 1) := by
   simp only [numAt];unfold wrap64; omega
  have := ih k (i + 1) a1 a2;rw [a5];conv => lhs; simp only [r03_One.l0]
  rw [if_pos a3, if_pos a4, e1, e2];exact this
theorem one_told (t : ByteArray) {s : Int} (hs : isSize s = true) (hsz : t.size = s.natAbs) (k : Nat) (hk : 16 ≤ k) : r03_One.f k t s = some (takeN t s) := by
 have hn := size_of hs;obtain ⟨H, hH, h0⟩ := pow_even hn;have hh : H ≤ 2147483648 := by rcases hn with h | h | h | h <;> rw [h] at hH <;> simp at hH <;> omega
 obtain ⟨j, rfl⟩ : ∃ j, k = (j + 1) + s.natAbs := ⟨k - 1 - s.natAbs, by omega⟩;unfold r03_One.f;have h := one_walk t s s.natAbs (by omega) hsz s.natAbs (j + 1) 0 (by omega) (by omega);have hz : numAt t 0 = 0 := rfl;rw [hz] at h;refine Eq.trans h ?_;have hb := numAt_bd t s.natAbs;simp only [r03_One.l0];rw [hsz, if_neg (by omega), power_told _ hn j (by omega)];simp only [Option.bind_some];unfold takeN;rw [hH] at hb ⊢;have e1 : Int.tdiv (2 * H) 2 = H := by rw [Int.tdiv_eq_ediv_of_nonneg (by omega)]; omega
 have e2 : wrap64 H = H := by unfold wrap64; omega
 rw [e1, e2];by_cases hz : s < 0
 ·
  rw [if_pos hz];by_cases hv : numAt t s.natAbs ≥ H
  · rw [if_pos hv, if_pos ⟨hz, by omega⟩, Option.some.injEq]; unfold wrap64; omega
  rw [if_neg hv, if_neg (by rintro ⟨_, h⟩; omega)]
 rw [if_neg hz, if_neg (by rintro ⟨h, _⟩; exact hz h)]
theorem num_cut (t : ByteArray) (p n m : Nat) (hm : m ≤ n) (h : p + n ≤ t.size) : numAt (t.extract p (p + n)) m = numAt (t.extract p t.size) m := by
 induction m with
 | zero => rfl
 | succ m ih =>
  simp only [numAt];rw [ih (by omega)];congr 1
  unfold bt;have h1 : ((m : Nat) : Int).toNat < (t.extract p (p + n)).size := by simp; omega
  have h2 : ((m : Nat) : Int).toNat < (t.extract p t.size).size := by simp; omega
  rw [dif_pos h1, dif_pos h2];simp only [Int.toNat_natCast, ByteArray.getElem_extract]
theorem one_at (t : ByteArray) (p : Nat) {s : Int} (hs : isSize s = true) (n : Nat) (hn : s.natAbs = n) (h : p + n ≤ t.size) (k : Nat) (hk : 16 ≤ k) : r03_One.f k (t.extract p (p + n)) s = some (takeN (t.extract p t.size) s) := by
 rw [one_told _ hs (by simp; omega) k hk, Option.some.injEq];unfold takeN;rw [num_cut t p n s.natAbs (by omega) h]
theorem bytes_walk (v0 : Int) (n : Nat) (hn : n ≤ 4) (d : Nat) : ∀ k v i, n - i = d → i ≤ n → 0 ≤ v → v < 9223372036854775808 → (∀ j, byteOf v j = byteOf v0 (i + j)) → r03_Bytes.l0 (k + d + 1) v (n : Int) ⟨(bytesN v0 i).toArray⟩ (i : Int) = some ⟨(bytesN v0 n).toArray⟩ := by
 induction d with
 | zero =>
  intro k v i hd hi h0 h1 hb;have : i = n := by omega
  subst this;simp only [r03_Bytes.l0];rw [if_neg (by omega)]
 | succ d ih =>
  intro k v i hd hi h0 h1 hb;have e2 : wrap64 ((i : Int) + 1) = ((i + 1 : Nat) : Int) := by unfold wrap64; omega
  have t1 : Int.tmod v 256 = v % 256 := Int.tmod_eq_emod_of_nonneg h0;have t2 : Int.tdiv v 256 = v / 256 := Int.tdiv_eq_ediv_of_nonneg h0;have w1 : wrap64 (v / 256) = v / 256 := by unfold wrap64; omega
  have hsz : ∀ z : Int, (strOfNums [z]).size = 1 := fun z => by simp [strOfNums, ByteArray.size]
  have hst : strOfNums [v % 256 % 256] = ⟨[byteOf v0 i].toArray⟩ := by
   have e : UInt8.ofNat (v % 256 % 256).toNat = byteOf v 0 := by
    unfold byteOf;rw [Int.pow_zero, Int.ediv_one, show v % 256 % 256 = v % 256 by omega]
   simp only [strOfNums, List.map_cons, List.map_nil];rw [e, hb 0, Nat.add_zero]
  have := ih k (v / 256) (i + 1) (by omega) (by omega) (by omega) (by omega) (fun j => by
   have := hb (j + 1);rw [show i + 1 + j = i + (j + 1) by omega, ← this];unfold byteOf;rw [Int.pow_succ, Int.mul_comm, Int.ediv_ediv_of_nonneg (by decide)])
  rw [show k + (d + 1) + 1 = (k + d + 1) + 1 by omega];conv => lhs; simp only [r03_Bytes.l0]
  rw [if_pos (by omega)];simp only [Option.bind_some];rw [t1, t2, w1, if_pos (by rw [hsz, ba_size, bytesN_length]; omega), e2, hst, ba_join];exact this
theorem bytesN_shift (v : Int) (n : Nat) (hn : n = 1 ∨ n = 2 ∨ n = 3 ∨ n = 4) : bytesN (v + 256 ^ n) n = bytesN v n := by
 have h : ∀ j, j < n → byteOf (v + 256 ^ n) j = byteOf v j := fun j hj => by
  unfold byteOf
  have : (v + 256 ^ n) / 256 ^ j % 256 = v / 256 ^ j % 256 := by
   have e1 : (256 : Int) ^ 1 = 256 := by decide
   have e2 : (256 : Int) ^ 2 = 65536 := by decide
   have e3 : (256 : Int) ^ 3 = 16777216 := by decide
   have e4 : (256 : Int) ^ 4 = 4294967296 := by decide
   have hj2 : j = 0 ∨ j = 1 ∨ j = 2 ∨ j = 3 := by omega
   rcases hn with rfl | rfl | rfl | rfl <;> rcases hj2 with rfl | rfl | rfl | rfl <;> first | (exact absurd hj (by decide)) | (simp only [e1, e2, e3, e4, Int.pow_zero, Int.ediv_one]; omega)
  rw [this]
 have hg : ∀ m, m ≤ n → bytesN (v + 256 ^ n) m = bytesN v m := by
  intro m;induction m with
  | zero => intro _; rfl
  | succ m ih => intro hm; simp only [bytesN]; rw [h m (by omega), ih (by omega)]
 exact hg n (Nat.le_refl n)
theorem bytesN_told (v : Int) (n : Nat) (hn : n = 1 ∨ n = 2 ∨ n = 3 ∨ n = 4) (h0 : -256 ^ n ≤ v) (h1 : v < 256 ^ n) (k : Nat) (hk : 16 ≤ k) : r03_Bytes.f k v (n : Int) = some ⟨(bytesN v n).toArray⟩ := by
 have hp : (256 : Int) ^ n ≤ 4294967296 := by rcases hn with rfl | rfl | rfl | rfl <;> decide
 have hj : ∀ u : Int, 0 ≤ u → u < 9223372036854775808 → r03_Bytes.j0 k u (n : Int) = some ⟨(bytesN u n).toArray⟩ := fun u hu hu2 => by
  obtain ⟨j, rfl⟩ : ∃ j, k = (j + n + 1) + 1 := ⟨k - 2 - n, by omega⟩;simp only [r03_Bytes.j0];exact bytes_walk u n (by omega) n j u 0 (by omega) (by omega) hu hu2 (fun j => by rw [Nat.zero_add])
 unfold r03_Bytes.f;by_cases hv : v < 0
 ·
  rw [if_pos hv, power_told n hn k (by omega)];simp only [Option.bind_some];rw [show wrap64 (v + 256 ^ n) = v + 256 ^ n by generalize (256 : Int) ^ n = P at *; unfold wrap64; omega, hj _ (by omega) (by omega), bytesN_shift v n hn]
 rw [if_neg hv, hj v (by omega) (by omega)]
end Go.Proofs.YtejdflndgnpkcaaGreat.P
