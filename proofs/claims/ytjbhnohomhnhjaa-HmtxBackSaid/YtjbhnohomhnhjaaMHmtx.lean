/- Plain facts of hmtx's Get and Put: what bytes tell, what metrics are written as, and that each undoes the other. -/
import Derived.Test.YtjbhnohomhnhjaaEHmtxPut
import Derived.Test.YtjbhnohomhnhjaaEHmtxGet
namespace Go.Proofs.Ytjbhnohomhnhjaa.P
open Go.RowKit Go.Proofs.YtjbhnohomhnhjaaW.PrintWords Go.Proofs.YtjbhnohomhnhjaaW.PrintLast Go.Proofs.YtjbhnohomhnhjaaW.PrintMore
set_option linter.unusedSimpArgs false
set_option linter.unusedVariables false
/-! ### Bytes -/
def u16 (t : ByteArray) (p : Nat) : Int := 256 * bt t (p : Int) + bt t ((p + 1 : Nat) : Int)
def i16 (t : ByteArray) (p : Nat) : Int := if 32768 ≤ u16 t p then u16 t p - 65536 else u16 t p
theorem bt_ext (t : ByteArray) (p i : Nat) (h : p + i < t.size) : bt (t.extract p t.size) (i : Int) = bt t ((p + i : Nat) : Int) := by
  unfold bt
  have h1 : ((i : Nat) : Int).toNat < (t.extract p t.size).size := by simp; omega
  have h2 : ((p + i : Nat) : Int).toNat < t.size := by simp; omega
  rw [dif_pos h1, dif_pos h2]
  simp only [Int.toNat_natCast, ByteArray.getElem_extract]
theorem u16_range (t : ByteArray) (p : Nat) : 0 ≤ u16 t p ∧ u16 t p < 65536 := by
  have h1 := bt_range t (p : Int)
  have h2 := bt_range t ((p + 1 : Nat) : Int)
  unfold u16; omega
theorem i16_range (t : ByteArray) (p : Nat) : -32768 ≤ i16 t p ∧ i16 t p < 32768 := by
  have h := u16_range t p
  unfold i16
  split <;> omega
theorem num_two (t : ByteArray) (p : Nat) (h : p + 2 ≤ t.size) : numAt (t.extract p t.size) 2 = u16 t p := by
  have h0 := bt_ext t p 0 (by omega)
  have h1 := bt_ext t p 1 (by omega)
  have e0 : bt (t.extract p t.size) ((0 : Nat) : Int) = bt t (p : Int) := h0
  simp only [numAt]
  rw [h1, e0]
  unfold u16
  omega
theorem take_u (t : ByteArray) (p : Nat) (h : p + 2 ≤ t.size) : takeN (t.extract p t.size) 2 = u16 t p := by
  unfold takeN
  rw [if_neg (by omega)]
  exact num_two t p h
theorem take_i (t : ByteArray) (p : Nat) (h : p + 2 ≤ t.size) : takeN (t.extract p t.size) (-2) = i16 t p := by
  unfold takeN
  have e : (-2 : Int).natAbs = 2 := rfl
  rw [e, num_two t p h]
  have e2 : (256 : Int) ^ 2 = 65536 := by decide
  rw [e2]
  unfold i16
  by_cases hc : 32768 ≤ u16 t p
  · rw [if_pos ⟨by decide, by omega⟩, if_pos hc]
  · rw [if_neg (fun hh => hc (by have := hh.2; omega)), if_neg hc]
theorem ext_two (t : ByteArray) (p k : Nat) (h : p + k ≤ t.size) : (t.extract p t.size).extract k (t.extract p t.size).size = t.extract (p + k) t.size := by
  rw [ByteArray.extract_extract]
  congr 1
  simp; omega
def seqM (t : ByteArray) (p : Nat) : Nat → List Int
  | 0 => []
  | m + 1 => u16 t p :: i16 t (p + 2) :: seqM t (p + 4) m
def seqS (t : ByteArray) (p : Nat) : Nat → List Int
  | 0 => []
  | m + 1 => i16 t p :: seqS t (p + 2) m
theorem takes_pairs (t : ByteArray) : ∀ (m p : Nat), p + 4 * m ≤ t.size → takes (t.extract p t.size) (repN [2, -2] m) = some (seqM t p m)
  | 0, p, _ => rfl
  | m + 1, p, h => by
    have hs : ∀ q, q ≤ t.size → (t.extract q t.size).size = t.size - q := fun q hq => by simp
    rw [repN]
    simp only [List.cons_append, List.nil_append, takes]
    have e1 : (2 : Int).natAbs = 2 := rfl
    have e2 : (-2 : Int).natAbs = 2 := rfl
    rw [e1, e2, if_pos (by rw [hs p (by omega)]; omega), ext_two t p 2 (by omega), if_pos (by rw [hs (p + 2) (by omega)]; omega), ext_two t (p + 2) 2 (by omega), takes_pairs t m (p + 2 + 2) (by omega), take_u t p (by omega), take_i t (p + 2) (by omega)]
    rfl
theorem takes_sides (t : ByteArray) : ∀ (m p : Nat), p + 2 * m ≤ t.size → takes (t.extract p t.size) (repN [-2] m) = some (seqS t p m)
  | 0, p, _ => rfl
  | m + 1, p, h => by
    rw [repN]
    simp only [List.cons_append, List.nil_append, takes]
    have e2 : (-2 : Int).natAbs = 2 := rfl
    rw [e2, if_pos (by simp; omega), ext_two t p 2 (by omega), takes_sides t m (p + 2) (by omega), take_i t p (by omega)]
    rfl
theorem rd_cons (a : Int) (l : List Int) (i : Nat) : rd (a :: l) ((i + 1 : Nat) : Int) = rd l (i : Int) := by
  unfold rd
  rw [Int.toNat_natCast, Int.toNat_natCast]
  simp
theorem rd_zero (a : Int) (l : List Int) : rd (a :: l) ((0 : Nat) : Int) = a := rfl
theorem seqM_get (t : ByteArray) : ∀ (m p k : Nat), k < m → rd (seqM t p m) ((2 * k : Nat) : Int) = u16 t (p + 4 * k) ∧ rd (seqM t p m) ((2 * k + 1 : Nat) : Int) = i16 t (p + 4 * k + 2)
  | 0, _, _, h => absurd h (Nat.not_lt_zero _)
  | m + 1, p, 0, _ => by
    rw [seqM]
    exact ⟨rfl, rfl⟩
  | m + 1, p, k + 1, h => by
    obtain ⟨h1, h2⟩ := seqM_get t m (p + 4) k (by omega)
    rw [seqM]
    have e1 : 2 * (k + 1) = (2 * k + 1) + 1 := by omega
    have e2 : 2 * (k + 1) + 1 = (2 * k + 1 + 1) + 1 := by omega
    rw [e2, e1, rd_cons, rd_cons, h1, rd_cons, rd_cons, h2, show p + 4 + 4 * k = p + 4 * (k + 1) by omega]
    exact ⟨rfl, rfl⟩
theorem seqS_length (t : ByteArray) : ∀ (m p : Nat), (seqS t p m).length = m
  | 0, _ => rfl
  | m + 1, p => by rw [seqS, List.length_cons, seqS_length t m]
theorem seqS_get (t : ByteArray) : ∀ (m p k : Nat) (h : k < (seqS t p m).length), (seqS t p m)[k] = i16 t (p + 2 * k)
  | 0, _, _, h => absurd h (Nat.not_lt_zero _)
  | m + 1, p, 0, _ => rfl
  | m + 1, p, k + 1, h => by
    have := seqS_get t m (p + 2) k (by rw [seqS] at h; simpa using h)
    simp only [seqS, List.getElem_cons_succ]
    rw [this]; congr 1; omega
/-! ### Get -/
/-- The metric of glyph i, of which the first m have a width of their own. -/
def metricAt (t : ByteArray) (m i : Nat) : S34 := if i < m then ⟨u16 t (4 * i), i16 t (4 * i + 2)⟩ else ⟨u16 t (4 * (m - 1)), i16 t (4 * m + 2 * (i - m))⟩
theorem row_told (t : ByteArray) (m k : Nat) (hm : 1 ≤ m) : rowM (seqM t 0 m) (seqS t (4 * m) k) m = (List.range (m + k)).map (metricAt t m) := by
  have hp : ∀ j, j < m → pairM (seqM t 0 m) j = ⟨u16 t (4 * j), i16 t (4 * j + 2)⟩ := fun j hj => by
    obtain ⟨h1, h2⟩ := seqM_get t m 0 j hj
    unfold pairM
    rw [h1, h2, Nat.zero_add]
  have hl : (pairsM (seqM t 0 m) m).length = m := by simp [pairsM]
  unfold rowM
  apply List.ext_getElem
  · simp [hl, seqS_length]
  · intro i h1 h2
    have hi : i < m + k := by simpa using h2
    rw [List.getElem_map, List.getElem_range]
    by_cases him : i < m
    · rw [List.getElem_append_left (by rw [hl]; exact him)]
      unfold metricAt
      rw [if_pos him]
      simp only [pairsM, List.getElem_map, List.getElem_finRange]
      exact hp i him
    · rw [List.getElem_append_right (by rw [hl]; omega), List.getElem_map]
      unfold metricAt
      rw [if_neg him, seqS_get, hp (m - 1) (by omega)]
      simp [hl]
theorem get_told (t : ByteArray) (g m : Nat) (hm : 1 ≤ m) (hmg : m ≤ g) (hg : g ≤ 65535) (hs : 4 * m + 2 * (g - m) ≤ t.size) : hmtx_Get.f t (g : Int) (m : Int) = some ((List.range g).map (metricAt t m), 0) := by
  unfold hmtx_Get.f
  rw [if_neg (by omega), if_neg (by omega)]
  have e1 : ((g : Int) - (m : Int)).toNat = g - m := by omega
  have e2 : (4 * (m : Int)) = ((4 * m : Nat) : Int) := by omega
  rw [e1, e2, Int.toNat_natCast]
  have hX : getN t 0 (repN [2, -2] m) = (seqM t 0 m, 0) := by
    unfold getN
    rw [if_neg (by rintro (h | h)
                   · exact absurd h (by decide)
                   · rw [areSizes_rep _ (by decide)] at h; exact absurd h (by decide)), if_neg (by omega), show (0 : Int).toNat = 0 from rfl, takes_pairs t m 0 (by omega)]
  have hY : getN t ((4 * m : Nat) : Int) (repN [-2] (g - m)) = (seqS t (4 * m) (g - m), 0) := by
    unfold getN
    rw [if_neg (by rintro (h | h)
                   · omega
                   · rw [areSizes_rep _ (by decide)] at h; exact absurd h (by decide)), if_neg (by omega), Int.toNat_natCast, takes_sides t (g - m) (4 * m) (by omega)]
  rw [hX, hY, row_told t m (g - m) hm, show m + (g - m) = g by omega]
end Go.Proofs.Ytjbhnohomhnhjaa.P
