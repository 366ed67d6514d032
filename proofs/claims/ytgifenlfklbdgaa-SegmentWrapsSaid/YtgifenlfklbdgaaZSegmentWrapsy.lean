/- A part of the proof of the law SegmentWraps: the words, contracts and plain facts that it needs, no more. Each says its own condition. -/
import Derived.Test.YtgifenlfklbdgaaZSegmentWrapsj
import Derived.Test.YtgifenlfklbdgaaZSegmentWrapsw
import Derived.Test.YtgifenlfklbdgaaZSegmentWrapsl
import Derived.Test.YtgifenlfklbdgaaZSegmentWrapsg
namespace Go.Proofs.Ytgifenlfklbdgaa.P
open Go.RowKit Go.Proofs.YtgifenlfklbdgaaW.PrintWords Go.Proofs.YtgifenlfklbdgaaW.PrintLast Go.Proofs.YtgifenlfklbdgaaW.PrintMore
set_option linter.unusedSimpArgs false
set_option linter.unusedVariables false
theorem ba_size (L : List UInt8) : (⟨L.toArray⟩ : ByteArray).size = L.length := by simp [ByteArray.size]
theorem ba_cut (L : List UInt8) (i j : Nat) : (⟨L.toArray⟩ : ByteArray).extract i j = ⟨((L.take j).drop i).toArray⟩ := by
  apply ByteArray.ext
  rw [ByteArray.data_extract]
  apply Array.ext'
  simp [List.drop_take]
theorem ba_drop (a r : List UInt8) : (⟨(a ++ r).toArray⟩ : ByteArray).extract a.length (⟨(a ++ r).toArray⟩ : ByteArray).size = ⟨r.toArray⟩ := by
  rw [ba_size, ba_cut, List.take_length, List.drop_left]
theorem bt_at (L : List UInt8) (j : Nat) (h : j < L.length) : bt (⟨L.toArray⟩ : ByteArray) (j : Int) = (L[j].toNat : Int) := by
  unfold bt
  have h1 : ((j : Nat) : Int).toNat < (⟨L.toArray⟩ : ByteArray).size := by rw [ba_size]; exact h
  rw [dif_pos h1]
  simp only [Int.toNat_natCast]
  rfl
theorem num_bytes (v : Int) (n : Nat) (hn : n = 1 ∨ n = 2 ∨ n = 3 ∨ n = 4) (r : List UInt8) : numAt ⟨(bytesN v n ++ r).toArray⟩ n = v % 256 ^ n := by
  have hb : ∀ j (h : j < (bytesN v n ++ r).length), bt (⟨(bytesN v n ++ r).toArray⟩ : ByteArray) (j : Int) = ((bytesN v n ++ r)[j].toNat : Int) := fun j h => bt_at _ j h
  have e1 : (256 : Int) ^ 1 = 256 := by decide
  have e2 : (256 : Int) ^ 2 = 65536 := by decide
  have e3 : (256 : Int) ^ 3 = 16777216 := by decide
  have e4 : (256 : Int) ^ 4 = 4294967296 := by decide
  have f0 := byteOf_nat v 0
  have f1 := byteOf_nat v 1
  have f2 := byteOf_nat v 2
  have f3 := byteOf_nat v 3
  rw [Int.pow_zero, Int.ediv_one] at f0
  rw [e1] at f1
  rw [e2] at f2
  rw [e3] at f3
  rcases hn with rfl | rfl | rfl | rfl
  · have h0 := hb 0 (by simp [bytesN])
    simp only [bytesN, List.cons_append, List.nil_append, List.getElem_cons_zero, List.getElem_cons_succ] at h0
    simp only [numAt]
    simp only [bytesN, List.cons_append, List.nil_append]
    rw [e1, h0]; omega
  · have h0 := hb 0 (by simp [bytesN])
    have h1 := hb 1 (by simp [bytesN])
    simp only [bytesN, List.cons_append, List.nil_append, List.getElem_cons_zero, List.getElem_cons_succ] at h0 h1
    simp only [numAt]
    simp only [bytesN, List.cons_append, List.nil_append]
    rw [e2, h0, h1]; omega
  · have h0 := hb 0 (by simp [bytesN])
    have h1 := hb 1 (by simp [bytesN])
    have h2 := hb 2 (by simp [bytesN])
    simp only [bytesN, List.cons_append, List.nil_append, List.getElem_cons_zero, List.getElem_cons_succ] at h0 h1 h2
    simp only [numAt]
    simp only [bytesN, List.cons_append, List.nil_append]
    rw [e3, h0, h1, h2]; omega
  · have h0 := hb 0 (by simp [bytesN])
    have h1 := hb 1 (by simp [bytesN])
    have h2 := hb 2 (by simp [bytesN])
    have h3 := hb 3 (by simp [bytesN])
    simp only [bytesN, List.cons_append, List.nil_append, List.getElem_cons_zero, List.getElem_cons_succ] at h0 h1 h2 h3
    simp only [numAt]
    simp only [bytesN, List.cons_append, List.nil_append]
    rw [e4, h0, h1, h2, h3]; omega
theorem size_of {s : Int} (h : isSize s = true) : s.natAbs = 1 ∨ s.natAbs = 2 ∨ s.natAbs = 3 ∨ s.natAbs = 4 := by
  have := of_decide_eq_true h
  omega
theorem pow_even {n : Nat} (hn : n = 1 ∨ n = 2 ∨ n = 3 ∨ n = 4) : ∃ h : Int, (256 : Int) ^ n = 2 * h ∧ 0 < h := by
  rcases hn with rfl | rfl | rfl | rfl
  · exact ⟨128, by decide, by decide⟩
  · exact ⟨32768, by decide, by decide⟩
  · exact ⟨8388608, by decide, by decide⟩
  · exact ⟨2147483648, by decide, by decide⟩
theorem take_bytes {v s : Int} (hs : isSize s = true) (hf : fitsN v s = true) (r : List UInt8) : takeN ⟨(bytesN v s.natAbs ++ r).toArray⟩ s = v := by
  have hn := size_of hs
  obtain ⟨H, hH, h0⟩ := pow_even hn
  unfold takeN
  unfold fitsN at hf
  rw [num_bytes v s.natAbs hn r]
  rw [hH] at hf ⊢
  by_cases hz : s < 0
  · rw [if_pos hz] at hf
    have := of_decide_eq_true hf
    by_cases hv : v < 0
    · have e : v % (2 * H) = v + 2 * H := by
        rw [← Int.add_emod_right (a := v) (b := 2 * H)]
        exact Int.emod_eq_of_lt (by omega) (by omega)
      rw [e, if_pos ⟨hz, by omega⟩]; omega
    · have e : v % (2 * H) = v := Int.emod_eq_of_lt (by omega) (by omega)
      rw [e, if_neg (by rintro ⟨_, h⟩; omega)]
  · rw [if_neg hz] at hf
    have := of_decide_eq_true hf
    have e : v % (2 * H) = v := Int.emod_eq_of_lt (by omega) (by omega)
    rw [e, if_neg (by rintro ⟨h, _⟩; exact hz h)]
theorem takes_rep (t : ByteArray) (s : Int) : ∀ (m p : Nat), p + s.natAbs * m ≤ t.size → takes (t.extract p t.size) (repN [s] m) = some ((List.range m).map (fun i => takeN (t.extract (p + s.natAbs * i) t.size) s))
  | 0, p, _ => rfl
  | m + 1, p, h => by
    have hm : s.natAbs * (m + 1) = s.natAbs * m + s.natAbs := Nat.mul_succ _ _
    have hx : (t.extract p t.size).extract s.natAbs (t.extract p t.size).size = t.extract (p + s.natAbs) t.size := by
      rw [ByteArray.extract_extract]
      congr 1
      simp; omega
    have hz : (t.extract p t.size).size = t.size - p := by simp
    simp only [repN, List.cons_append, List.nil_append, takes]
    rw [if_pos (by rw [hz]; omega), hx, takes_rep t s m (p + s.natAbs) (by omega), List.range_succ_eq_map, List.map_cons, List.map_map]
    simp only [Option.map_some, Option.some.injEq, Nat.mul_zero, Nat.add_zero, List.cons.injEq, true_and]
    apply List.map_congr_left
    intro i _
    simp only [Function.comp_apply, Nat.mul_succ, Nat.succ_eq_add_one]
    congr 2
    omega
theorem takes_rep_none (t : ByteArray) (s : Int) : ∀ (m p : Nat), p ≤ t.size → t.size < p + s.natAbs * m → takes (t.extract p t.size) (repN [s] m) = none
  | 0, p, h1, h2 => by omega
  | m + 1, p, h1, h2 => by
    have hm : s.natAbs * (m + 1) = s.natAbs * m + s.natAbs := Nat.mul_succ _ _
    have hx : (t.extract p t.size).extract s.natAbs (t.extract p t.size).size = t.extract (p + s.natAbs) t.size := by
      rw [ByteArray.extract_extract]
      congr 1
      simp; omega
    have hz : (t.extract p t.size).size = t.size - p := by simp
    simp only [repN, List.cons_append, List.nil_append, takes]
    by_cases h : s.natAbs ≤ t.size - p
    · rw [if_pos (by rw [hz]; exact h), hx, takes_rep_none t s m (p + s.natAbs) (by omega) (by omega)]; rfl
    · rw [if_neg (by rw [hz]; exact h)]
theorem rep_sizes {s : Int} (h : isSize s = true) : ∀ m, areSizes (repN [s] m) = true
  | 0 => rfl
  | m + 1 => by
    have := rep_sizes h m
    unfold areSizes at this ⊢
    simp only [repN, List.cons_append, List.nil_append, List.all_cons, Bool.and_eq_true]
    exact ⟨h, this⟩
theorem get_rep (t : ByteArray) {s : Int} (hs : isSize s = true) (p m : Nat) : getN t (p : Int) (repN [s] m) = if p + s.natAbs * m ≤ t.size then ((List.range m).map (fun i => takeN (t.extract (p + s.natAbs * i) t.size) s), 0) else ([], 4) := by
  unfold getN
  rw [if_neg (by rintro (h | h); · omega
                 · rw [rep_sizes hs m] at h; exact absurd h (by decide))]
  by_cases hp : p ≤ t.size
  · rw [if_neg (by omega), Int.toNat_natCast]
    by_cases h : p + s.natAbs * m ≤ t.size
    · rw [if_pos h, takes_rep t s m p h]
    · rw [if_neg h, takes_rep_none t s m p hp (by omega)]
  · rw [if_pos (by omega), if_neg (by have := Nat.zero_le (s.natAbs * m); omega)]
end Go.Proofs.Ytgifenlfklbdgaa.P
