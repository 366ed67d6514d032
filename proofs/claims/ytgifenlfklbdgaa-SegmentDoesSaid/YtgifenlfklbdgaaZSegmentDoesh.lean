/- A part of the proof of the law SegmentDoes: the words, contracts and plain facts that it needs, no more. Each says its own condition. -/
import Derived.Test.YtgifenlfklbdgaaZSegmentDoesg
import Derived.Recover
import Derived.Defers
import Derived.WalkKit
import Derived.WalkLawsBesides
import Derived.Lib.Hide
namespace Go.Proofs.Ytgifenlfklbdgaa.P
open Go.RowKit Go.Proofs.YtgifenlfklbdgaaW.PrintWords Go.Proofs.YtgifenlfklbdgaaW.PrintLast Go.Proofs.YtgifenlfklbdgaaW.PrintMore
set_option maxRecDepth 100000
attribute [local go_sem] max2_int min2_int max_two min_two max_three min_three max_four min_four
def numAt (t : ByteArray) : Nat → Int
  | 0 => 0
  | n + 1 => numAt t n * 256 + bt t (n : Int)
def isSize (s : Int) : Bool := decide (s ≠ 0 ∧ -4 ≤ s ∧ s ≤ 4)
def takeN (t : ByteArray) (s : Int) : Int :=
  if s < 0 ∧ (256 : Int) ^ s.natAbs ≤ 2 * numAt t s.natAbs then numAt t s.natAbs - 256 ^ s.natAbs else numAt t s.natAbs
theorem numAt_bd (t : ByteArray) : ∀ n, 0 ≤ numAt t n ∧ numAt t n < 256 ^ n
  | 0 => by simp [numAt]
  | n + 1 => by
    have h := numAt_bd t n
    have b := bt_range t (n : Int)
    simp only [numAt]
    rw [Int.pow_succ]
    generalize (256 : Int) ^ n = P at *
    omega
theorem take_more (q : Addr) (t : ByteArray) (s : Int) (w : World) (hq : w.cell? q = some (.string t)) (hs : isSize s = true) (hn : t.size < s.natAbs) :
    Calls Try.prog 107 #[.pointer (some q), .int .i64 s] w fun e w' => e = .panicked [{ v := .iface 24 (.int .i64 4), recovered := false }] ∧ w' = w := by
  have h := of_decide_eq_true hs
  have : s = -4 ∨ s = -3 ∨ s = -2 ∨ s = -1 ∨ s = 1 ∨ s = 2 ∨ s = 3 ∨ s = 4 := by omega
  clear hs h
  rcases this with rfl | rfl | rfl | rfl | rfl | rfl | rfl | rfl
  all_goals
    first | (have h1 : decide ((t.size : Int) < 1) = true := decide_eq_true (by omega); have h2 : decide (t.size < 1) = true := decide_eq_true (by omega)) | (have h1 : decide ((t.size : Int) < 2) = true := decide_eq_true (by omega); have h2 : decide (t.size < 2) = true := decide_eq_true (by omega)) | (have h1 : decide ((t.size : Int) < 3) = true := decide_eq_true (by omega); have h2 : decide (t.size < 3) = true := decide_eq_true (by omega)) | (have h1 : decide ((t.size : Int) < 4) = true := decide_eq_true (by omega); have h2 : decide (t.size < 4) = true := decide_eq_true (by omega))
    clear hn
    go_enter Try.func107, Try.ntmps107
    go_wp2
    exact ⟨rfl, rfl, rfl⟩
theorem shl_or (v b : Int) (h0 : 0 ≤ v) (h1 : v < 4294967296) (hb0 : 0 ≤ b) (hb : b ≤ 255) : bits .or .i64 (wrap64 (v * 256)) (wrap64 b) = v * 256 + b := by
  have e1 : wrap64 (v * 256) = v * 256 := by unfold wrap64; omega
  have e2 : wrap64 b = b := by unfold wrap64; omega
  rw [e1, e2]
  exact bits_join .i64 63 (by decide) (fun n h₀ h₁ => by rw [IntKind.wrap_i64]; omega) 8 (v * 256) b (by omega) (by omega) (by omega) hb0 (by omega) (by omega)
theorem sub_byte (t : ByteArray) (n j : Nat) (hj : j < n) (hn : n ≤ t.size) : (((t.extract 0 n).data.toList.getD j 0).toNat : Int) = bt t (j : Int) := by
  have h1 : j < t.size := Nat.lt_of_lt_of_le hj hn
  have e : (t.extract 0 n).data.toList = t.data.toList.take n := by
    rw [ByteArray.data_extract, Array.toList_extract]
    simp
  rw [e, List.getD_eq_getElem?_getD, List.getElem?_take_of_lt hj]
  unfold bt
  rw [Int.toNat_natCast, dif_pos h1, List.getElem?_eq_getElem (by simpa using h1)]
  rfl
theorem numAt_small (t : ByteArray) (i : Nat) (h : i ≤ 3) : 0 ≤ numAt t i ∧ numAt t i < 4294967296 := by
  have b := numAt_bd t i
  have : i = 0 ∨ i = 1 ∨ i = 2 ∨ i = 3 := by omega
  rcases this with rfl | rfl | rfl | rfl <;> omega
theorem take_p1 (g : Nat) (t : ByteArray) (w : World) (hq : w.cell? ⟨g, 0, none⟩ = some (.string t)) (hz : w.frozen? ⟨g, 0, none⟩ = false) (hn : 1 ≤ t.size) :
    Calls Try.prog 107 #[.pointer (some ⟨g, 0, none⟩), .int .i64 1] w fun e w' => e = .returned (.int .i64 (takeN t 1)) ∧ w'.cell? ⟨g, 0, none⟩ = some (.string (t.extract 1 t.size)) ∧ w'.frozen? ⟨g, 0, none⟩ = false ∧ Below g w w' ∧ KeepBut w w' g none := by
  have h2 : decide ((t.size : Int) < 1) = false := decide_eq_false (by omega)
  have h3 : ((1 : Int) ≤ (t.size : Int)) = True := eq_true (by omega)
  have h4 : (1 ≤ t.size) = True := eq_true hn
  have HN := Lib.hid hn
  have hsz : (t.extract 0 1).size = 1 := by simp; omega
  obtain ⟨cap, hcap⟩ : ∃ cap, grownCap w (t.extract 0 1).size 0 5 = cap := ⟨_, rfl⟩
  obtain ⟨W, hW⟩ : ∃ W, Lib.bytesWorld w 5 (t.extract 0 1) = W := ⟨_, rfl⟩
  have hcv : (convert 9 76 (.string (t.extract 0 1))).run Try.prog w = .ok (.slice (some ⟨w.heap.size, 0, none⟩) 1 cap) W := by
    rw [Lib.run_convert_string_bytes w 9 76 5 (t.extract 0 1) Try.underlying9 Try.underlying76 Try.underlying5, hcap, hsz, hW]
  have hB : Below w.heap.size w W := by rw [← hW]; exact bytes_below (Below.refl _ _) (Nat.le_refl _) _ _
  have hlq := World.block_lt_of_cell? w ⟨g, 0, none⟩ hq
  have hq1 : W.cell? ⟨g, 0, none⟩ = some (.string t) := (hB.cell hlq).trans hq
  have hz1 : W.frozen? ⟨g, 0, none⟩ = false := (hB.frozen hlq).trans hz
  have hbytes : ∀ j, j < 1 → W.cell? ⟨w.heap.size, j, none⟩ = some (.int .u8 (bt t (j : Int))) := fun j hj => by
    rw [← hW, Lib.bytesWorld_cell w _ _ j (by rw [hsz]; exact hj), sub_byte t 1 j hj hn]
  have HBY := Lib.hid hbytes
  have HB := Lib.hid hB
  clear hW hsz hcap hbytes hB hlq
  clear hn
  go_enter Try.func107, Try.ntmps107
  go_wp2
  clear hcv
  go_loopw [30, 6] (fun v30 v6 wr => ∃ i : Nat, i ≤ 1 ∧ v30 = .int .i64 (i : Int) ∧ v6 = .int .i64 (numAt t i) ∧ wr = W) (fun v30 _ _ => 1 - (intOf v30).toNat)
  case atStart => exact ⟨0, by omega, rfl, rfl, rfl⟩
  case round =>
    obtain ⟨i, hi, rfl, rfl, rfl⟩ := hrel
    by_cases hlt : i < 1
    · have g1 : decide ((i : Int) < 1) = true := decide_eq_true (by omega)
      have hcell := HBY.out i hlt
      have bd := numAt_small t i (by omega)
      have bb := bt_range t (i : Int)
      have hor := shl_or (numAt t i) (bt t (i : Int)) bd.1 bd.2 bb.1 bb.2
      have HOR := Lib.hid hor
      clear hor bd bb
      go_wp2
      refine ⟨⟨i + 1, by omega, by go_num, ?_, trivial⟩, by simp [intOf]; omega⟩
      rw [HOR.out]; rfl
    · have g1 : decide ((i : Int) < 1) = false := decide_eq_false (by omega)
      have hi2 : i = 1 := by omega
      subst hi2
      clear hlt hi
      go_wp2
      go_ret
      have bq := World.block_lt_of_cell? w ⟨g, 0, none⟩ hq
      refine ⟨rfl, World.cell?_setCell_same _ _ _ hq1, by rw [World.frozen?_setCell]; exact hz1, (HB.out.mono (Nat.le_of_lt bq)).setCell (Nat.le_refl _) _, KeepBut.set_ (KeepBut.of_below HB.out g none) _ _⟩
theorem take_m1 (g : Nat) (t : ByteArray) (w : World) (hq : w.cell? ⟨g, 0, none⟩ = some (.string t)) (hz : w.frozen? ⟨g, 0, none⟩ = false) (hn : 1 ≤ t.size) :
    Calls Try.prog 107 #[.pointer (some ⟨g, 0, none⟩), .int .i64 (-1)] w fun e w' => e = .returned (.int .i64 (takeN t (-1))) ∧ w'.cell? ⟨g, 0, none⟩ = some (.string (t.extract 1 t.size)) ∧ w'.frozen? ⟨g, 0, none⟩ = false ∧ Below g w w' ∧ KeepBut w w' g none := by
  have h2 : decide ((t.size : Int) < 1) = false := decide_eq_false (by omega)
  have h3 : ((1 : Int) ≤ (t.size : Int)) = True := eq_true (by omega)
  have h4 : (1 ≤ t.size) = True := eq_true hn
  have HN := Lib.hid hn
  have hsz : (t.extract 0 1).size = 1 := by simp; omega
  obtain ⟨cap, hcap⟩ : ∃ cap, grownCap w (t.extract 0 1).size 0 5 = cap := ⟨_, rfl⟩
  obtain ⟨W, hW⟩ : ∃ W, Lib.bytesWorld w 5 (t.extract 0 1) = W := ⟨_, rfl⟩
  have hcv : (convert 9 76 (.string (t.extract 0 1))).run Try.prog w = .ok (.slice (some ⟨w.heap.size, 0, none⟩) 1 cap) W := by
    rw [Lib.run_convert_string_bytes w 9 76 5 (t.extract 0 1) Try.underlying9 Try.underlying76 Try.underlying5, hcap, hsz, hW]
  have hB : Below w.heap.size w W := by rw [← hW]; exact bytes_below (Below.refl _ _) (Nat.le_refl _) _ _
  have hlq := World.block_lt_of_cell? w ⟨g, 0, none⟩ hq
  have hq1 : W.cell? ⟨g, 0, none⟩ = some (.string t) := (hB.cell hlq).trans hq
  have hz1 : W.frozen? ⟨g, 0, none⟩ = false := (hB.frozen hlq).trans hz
  have hbytes : ∀ j, j < 1 → W.cell? ⟨w.heap.size, j, none⟩ = some (.int .u8 (bt t (j : Int))) := fun j hj => by
    rw [← hW, Lib.bytesWorld_cell w _ _ j (by rw [hsz]; exact hj), sub_byte t 1 j hj hn]
  have HBY := Lib.hid hbytes
  have HB := Lib.hid hB
  clear hW hsz hcap hbytes hB hlq
  clear hn
  go_enter Try.func107, Try.ntmps107
  go_wp2
  clear hcv
  go_loopw [30, 6] (fun v30 v6 wr => ∃ i : Nat, i ≤ 1 ∧ v30 = .int .i64 (i : Int) ∧ v6 = .int .i64 (numAt t i) ∧ wr = W) (fun v30 _ _ => 1 - (intOf v30).toNat)
  case atStart => exact ⟨0, by omega, rfl, rfl, rfl⟩
  case round =>
    obtain ⟨i, hi, rfl, rfl, rfl⟩ := hrel
    by_cases hlt : i < 1
    · have g1 : decide ((i : Int) < 1) = true := decide_eq_true (by omega)
      have hcell := HBY.out i hlt
      have bd := numAt_small t i (by omega)
      have bb := bt_range t (i : Int)
      have hor := shl_or (numAt t i) (bt t (i : Int)) bd.1 bd.2 bb.1 bb.2
      have HOR := Lib.hid hor
      clear hor bd bb
      go_wp2
      refine ⟨⟨i + 1, by omega, by go_num, ?_, trivial⟩, by simp [intOf]; omega⟩
      rw [HOR.out]; rfl
    · have g1 : decide ((i : Int) < 1) = false := decide_eq_false (by omega)
      have hi2 : i = 1 := by omega
      subst hi2
      clear hlt hi
      have bd := numAt_bd t 1
      by_cases hv : 128 ≤ numAt t 1
      · have g2 : decide (128 ≤ numAt t 1) = true := decide_eq_true hv
        have HT := Lib.hid (show takeN t (-1) = wrap64 (numAt t 1 - 256) by
          have hp : ((256 : Int) ^ ((-1) : Int).natAbs) = 256 := rfl
          unfold takeN
          rw [hp, show ((-1) : Int).natAbs = 1 from rfl, if_pos ⟨by decide, by omega⟩]
          unfold wrap64; omega)
        clear hv bd
        go_wp2
        go_ret
        have bq := World.block_lt_of_cell? w ⟨g, 0, none⟩ hq
        refine ⟨by rw [HT.out]; rfl, World.cell?_setCell_same _ _ _ hq1, by rw [World.frozen?_setCell]; exact hz1, (HB.out.mono (Nat.le_of_lt bq)).setCell (Nat.le_refl _) _, KeepBut.set_ (KeepBut.of_below HB.out g none) _ _⟩
      · have g2 : decide (128 ≤ numAt t 1) = false := decide_eq_false hv
        have HT := Lib.hid (show takeN t (-1) = numAt t 1 by
          have hp : ((256 : Int) ^ ((-1) : Int).natAbs) = 256 := rfl
          unfold takeN
          rw [hp, show ((-1) : Int).natAbs = 1 from rfl, if_neg (by omega)])
        clear hv bd
        go_wp2
        go_ret
        have bq := World.block_lt_of_cell? w ⟨g, 0, none⟩ hq
        refine ⟨by rw [HT.out]; rfl, World.cell?_setCell_same _ _ _ hq1, by rw [World.frozen?_setCell]; exact hz1, (HB.out.mono (Nat.le_of_lt bq)).setCell (Nat.le_refl _) _, KeepBut.set_ (KeepBut.of_below HB.out g none) _ _⟩
theorem take_p2 (g : Nat) (t : ByteArray) (w : World) (hq : w.cell? ⟨g, 0, none⟩ = some (.string t)) (hz : w.frozen? ⟨g, 0, none⟩ = false) (hn : 2 ≤ t.size) :
    Calls Try.prog 107 #[.pointer (some ⟨g, 0, none⟩), .int .i64 2] w fun e w' => e = .returned (.int .i64 (takeN t 2)) ∧ w'.cell? ⟨g, 0, none⟩ = some (.string (t.extract 2 t.size)) ∧ w'.frozen? ⟨g, 0, none⟩ = false ∧ Below g w w' ∧ KeepBut w w' g none := by
  have h2 : decide ((t.size : Int) < 2) = false := decide_eq_false (by omega)
  have h3 : ((2 : Int) ≤ (t.size : Int)) = True := eq_true (by omega)
  have h4 : (2 ≤ t.size) = True := eq_true hn
  have HN := Lib.hid hn
  have hsz : (t.extract 0 2).size = 2 := by simp; omega
  obtain ⟨cap, hcap⟩ : ∃ cap, grownCap w (t.extract 0 2).size 0 5 = cap := ⟨_, rfl⟩
  obtain ⟨W, hW⟩ : ∃ W, Lib.bytesWorld w 5 (t.extract 0 2) = W := ⟨_, rfl⟩
  have hcv : (convert 9 76 (.string (t.extract 0 2))).run Try.prog w = .ok (.slice (some ⟨w.heap.size, 0, none⟩) 2 cap) W := by
    rw [Lib.run_convert_string_bytes w 9 76 5 (t.extract 0 2) Try.underlying9 Try.underlying76 Try.underlying5, hcap, hsz, hW]
  have hB : Below w.heap.size w W := by rw [← hW]; exact bytes_below (Below.refl _ _) (Nat.le_refl _) _ _
  have hlq := World.block_lt_of_cell? w ⟨g, 0, none⟩ hq
  have hq1 : W.cell? ⟨g, 0, none⟩ = some (.string t) := (hB.cell hlq).trans hq
  have hz1 : W.frozen? ⟨g, 0, none⟩ = false := (hB.frozen hlq).trans hz
  have hbytes : ∀ j, j < 2 → W.cell? ⟨w.heap.size, j, none⟩ = some (.int .u8 (bt t (j : Int))) := fun j hj => by
    rw [← hW, Lib.bytesWorld_cell w _ _ j (by rw [hsz]; exact hj), sub_byte t 2 j hj hn]
  have HBY := Lib.hid hbytes
  have HB := Lib.hid hB
  clear hW hsz hcap hbytes hB hlq
  clear hn
  go_enter Try.func107, Try.ntmps107
  go_wp2
  clear hcv
  go_loopw [30, 6] (fun v30 v6 wr => ∃ i : Nat, i ≤ 2 ∧ v30 = .int .i64 (i : Int) ∧ v6 = .int .i64 (numAt t i) ∧ wr = W) (fun v30 _ _ => 2 - (intOf v30).toNat)
  case atStart => exact ⟨0, by omega, rfl, rfl, rfl⟩
  case round =>
    obtain ⟨i, hi, rfl, rfl, rfl⟩ := hrel
    by_cases hlt : i < 2
    · have g1 : decide ((i : Int) < 2) = true := decide_eq_true (by omega)
      have hcell := HBY.out i hlt
      have bd := numAt_small t i (by omega)
      have bb := bt_range t (i : Int)
      have hor := shl_or (numAt t i) (bt t (i : Int)) bd.1 bd.2 bb.1 bb.2
      have HOR := Lib.hid hor
      clear hor bd bb
      go_wp2
      refine ⟨⟨i + 1, by omega, by go_num, ?_, trivial⟩, by simp [intOf]; omega⟩
      rw [HOR.out]; rfl
    · have g1 : decide ((i : Int) < 2) = false := decide_eq_false (by omega)
      have hi2 : i = 2 := by omega
      subst hi2
      clear hlt hi
      go_wp2
      go_ret
      have bq := World.block_lt_of_cell? w ⟨g, 0, none⟩ hq
      refine ⟨rfl, World.cell?_setCell_same _ _ _ hq1, by rw [World.frozen?_setCell]; exact hz1, (HB.out.mono (Nat.le_of_lt bq)).setCell (Nat.le_refl _) _, KeepBut.set_ (KeepBut.of_below HB.out g none) _ _⟩
theorem take_m2 (g : Nat) (t : ByteArray) (w : World) (hq : w.cell? ⟨g, 0, none⟩ = some (.string t)) (hz : w.frozen? ⟨g, 0, none⟩ = false) (hn : 2 ≤ t.size) :
    Calls Try.prog 107 #[.pointer (some ⟨g, 0, none⟩), .int .i64 (-2)] w fun e w' => e = .returned (.int .i64 (takeN t (-2))) ∧ w'.cell? ⟨g, 0, none⟩ = some (.string (t.extract 2 t.size)) ∧ w'.frozen? ⟨g, 0, none⟩ = false ∧ Below g w w' ∧ KeepBut w w' g none := by
  have h2 : decide ((t.size : Int) < 2) = false := decide_eq_false (by omega)
  have h3 : ((2 : Int) ≤ (t.size : Int)) = True := eq_true (by omega)
  have h4 : (2 ≤ t.size) = True := eq_true hn
  have HN := Lib.hid hn
  have hsz : (t.extract 0 2).size = 2 := by simp; omega
  obtain ⟨cap, hcap⟩ : ∃ cap, grownCap w (t.extract 0 2).size 0 5 = cap := ⟨_, rfl⟩
  obtain ⟨W, hW⟩ : ∃ W, Lib.bytesWorld w 5 (t.extract 0 2) = W := ⟨_, rfl⟩
  have hcv : (convert 9 76 (.string (t.extract 0 2))).run Try.prog w = .ok (.slice (some ⟨w.heap.size, 0, none⟩) 2 cap) W := by
    rw [Lib.run_convert_string_bytes w 9 76 5 (t.extract 0 2) Try.underlying9 Try.underlying76 Try.underlying5, hcap, hsz, hW]
  have hB : Below w.heap.size w W := by rw [← hW]; exact bytes_below (Below.refl _ _) (Nat.le_refl _) _ _
  have hlq := World.block_lt_of_cell? w ⟨g, 0, none⟩ hq
  have hq1 : W.cell? ⟨g, 0, none⟩ = some (.string t) := (hB.cell hlq).trans hq
  have hz1 : W.frozen? ⟨g, 0, none⟩ = false := (hB.frozen hlq).trans hz
  have hbytes : ∀ j, j < 2 → W.cell? ⟨w.heap.size, j, none⟩ = some (.int .u8 (bt t (j : Int))) := fun j hj => by
    rw [← hW, Lib.bytesWorld_cell w _ _ j (by rw [hsz]; exact hj), sub_byte t 2 j hj hn]
  have HBY := Lib.hid hbytes
  have HB := Lib.hid hB
  clear hW hsz hcap hbytes hB hlq
  clear hn
  go_enter Try.func107, Try.ntmps107
  go_wp2
  clear hcv
  go_loopw [30, 6] (fun v30 v6 wr => ∃ i : Nat, i ≤ 2 ∧ v30 = .int .i64 (i : Int) ∧ v6 = .int .i64 (numAt t i) ∧ wr = W) (fun v30 _ _ => 2 - (intOf v30).toNat)
  case atStart => exact ⟨0, by omega, rfl, rfl, rfl⟩
  case round =>
    obtain ⟨i, hi, rfl, rfl, rfl⟩ := hrel
    by_cases hlt : i < 2
    · have g1 : decide ((i : Int) < 2) = true := decide_eq_true (by omega)
      have hcell := HBY.out i hlt
      have bd := numAt_small t i (by omega)
      have bb := bt_range t (i : Int)
      have hor := shl_or (numAt t i) (bt t (i : Int)) bd.1 bd.2 bb.1 bb.2
      have HOR := Lib.hid hor
      clear hor bd bb
      go_wp2
      refine ⟨⟨i + 1, by omega, by go_num, ?_, trivial⟩, by simp [intOf]; omega⟩
      rw [HOR.out]; rfl
    · have g1 : decide ((i : Int) < 2) = false := decide_eq_false (by omega)
      have hi2 : i = 2 := by omega
      subst hi2
      clear hlt hi
      have bd := numAt_bd t 2
      by_cases hv : 32768 ≤ numAt t 2
      · have g2 : decide (32768 ≤ numAt t 2) = true := decide_eq_true hv
        have HT := Lib.hid (show takeN t (-2) = wrap64 (numAt t 2 - 65536) by
          have hp : ((256 : Int) ^ ((-2) : Int).natAbs) = 65536 := rfl
          unfold takeN
          rw [hp, show ((-2) : Int).natAbs = 2 from rfl, if_pos ⟨by decide, by omega⟩]
          unfold wrap64; omega)
        clear hv bd
        go_wp2
        go_ret
        have bq := World.block_lt_of_cell? w ⟨g, 0, none⟩ hq
        refine ⟨by rw [HT.out]; rfl, World.cell?_setCell_same _ _ _ hq1, by rw [World.frozen?_setCell]; exact hz1, (HB.out.mono (Nat.le_of_lt bq)).setCell (Nat.le_refl _) _, KeepBut.set_ (KeepBut.of_below HB.out g none) _ _⟩
      · have g2 : decide (32768 ≤ numAt t 2) = false := decide_eq_false hv
        have HT := Lib.hid (show takeN t (-2) = numAt t 2 by
          have hp : ((256 : Int) ^ ((-2) : Int).natAbs) = 65536 := rfl
          unfold takeN
          rw [hp, show ((-2) : Int).natAbs = 2 from rfl, if_neg (by omega)])
        clear hv bd
        go_wp2
        go_ret
        have bq := World.block_lt_of_cell? w ⟨g, 0, none⟩ hq
        refine ⟨by rw [HT.out]; rfl, World.cell?_setCell_same _ _ _ hq1, by rw [World.frozen?_setCell]; exact hz1, (HB.out.mono (Nat.le_of_lt bq)).setCell (Nat.le_refl _) _, KeepBut.set_ (KeepBut.of_below HB.out g none) _ _⟩
theorem take_p3 (g : Nat) (t : ByteArray) (w : World) (hq : w.cell? ⟨g, 0, none⟩ = some (.string t)) (hz : w.frozen? ⟨g, 0, none⟩ = false) (hn : 3 ≤ t.size) :
    Calls Try.prog 107 #[.pointer (some ⟨g, 0, none⟩), .int .i64 3] w fun e w' => e = .returned (.int .i64 (takeN t 3)) ∧ w'.cell? ⟨g, 0, none⟩ = some (.string (t.extract 3 t.size)) ∧ w'.frozen? ⟨g, 0, none⟩ = false ∧ Below g w w' ∧ KeepBut w w' g none := by
  have h2 : decide ((t.size : Int) < 3) = false := decide_eq_false (by omega)
  have h3 : ((3 : Int) ≤ (t.size : Int)) = True := eq_true (by omega)
  have h4 : (3 ≤ t.size) = True := eq_true hn
  have HN := Lib.hid hn
  have hsz : (t.extract 0 3).size = 3 := by simp; omega
  obtain ⟨cap, hcap⟩ : ∃ cap, grownCap w (t.extract 0 3).size 0 5 = cap := ⟨_, rfl⟩
  obtain ⟨W, hW⟩ : ∃ W, Lib.bytesWorld w 5 (t.extract 0 3) = W := ⟨_, rfl⟩
  have hcv : (convert 9 76 (.string (t.extract 0 3))).run Try.prog w = .ok (.slice (some ⟨w.heap.size, 0, none⟩) 3 cap) W := by
    rw [Lib.run_convert_string_bytes w 9 76 5 (t.extract 0 3) Try.underlying9 Try.underlying76 Try.underlying5, hcap, hsz, hW]
  have hB : Below w.heap.size w W := by rw [← hW]; exact bytes_below (Below.refl _ _) (Nat.le_refl _) _ _
  have hlq := World.block_lt_of_cell? w ⟨g, 0, none⟩ hq
  have hq1 : W.cell? ⟨g, 0, none⟩ = some (.string t) := (hB.cell hlq).trans hq
  have hz1 : W.frozen? ⟨g, 0, none⟩ = false := (hB.frozen hlq).trans hz
  have hbytes : ∀ j, j < 3 → W.cell? ⟨w.heap.size, j, none⟩ = some (.int .u8 (bt t (j : Int))) := fun j hj => by
    rw [← hW, Lib.bytesWorld_cell w _ _ j (by rw [hsz]; exact hj), sub_byte t 3 j hj hn]
  have HBY := Lib.hid hbytes
  have HB := Lib.hid hB
  clear hW hsz hcap hbytes hB hlq
  clear hn
  go_enter Try.func107, Try.ntmps107
  go_wp2
  clear hcv
  go_loopw [30, 6] (fun v30 v6 wr => ∃ i : Nat, i ≤ 3 ∧ v30 = .int .i64 (i : Int) ∧ v6 = .int .i64 (numAt t i) ∧ wr = W) (fun v30 _ _ => 3 - (intOf v30).toNat)
  case atStart => exact ⟨0, by omega, rfl, rfl, rfl⟩
  case round =>
    obtain ⟨i, hi, rfl, rfl, rfl⟩ := hrel
    by_cases hlt : i < 3
    · have g1 : decide ((i : Int) < 3) = true := decide_eq_true (by omega)
      have hcell := HBY.out i hlt
      have bd := numAt_small t i (by omega)
      have bb := bt_range t (i : Int)
      have hor := shl_or (numAt t i) (bt t (i : Int)) bd.1 bd.2 bb.1 bb.2
      have HOR := Lib.hid hor
      clear hor bd bb
      go_wp2
      refine ⟨⟨i + 1, by omega, by go_num, ?_, trivial⟩, by simp [intOf]; omega⟩
      rw [HOR.out]; rfl
    · have g1 : decide ((i : Int) < 3) = false := decide_eq_false (by omega)
      have hi2 : i = 3 := by omega
      subst hi2
      clear hlt hi
      go_wp2
      go_ret
      have bq := World.block_lt_of_cell? w ⟨g, 0, none⟩ hq
      refine ⟨rfl, World.cell?_setCell_same _ _ _ hq1, by rw [World.frozen?_setCell]; exact hz1, (HB.out.mono (Nat.le_of_lt bq)).setCell (Nat.le_refl _) _, KeepBut.set_ (KeepBut.of_below HB.out g none) _ _⟩
theorem take_m3 (g : Nat) (t : ByteArray) (w : World) (hq : w.cell? ⟨g, 0, none⟩ = some (.string t)) (hz : w.frozen? ⟨g, 0, none⟩ = false) (hn : 3 ≤ t.size) :
    Calls Try.prog 107 #[.pointer (some ⟨g, 0, none⟩), .int .i64 (-3)] w fun e w' => e = .returned (.int .i64 (takeN t (-3))) ∧ w'.cell? ⟨g, 0, none⟩ = some (.string (t.extract 3 t.size)) ∧ w'.frozen? ⟨g, 0, none⟩ = false ∧ Below g w w' ∧ KeepBut w w' g none := by
  have h2 : decide ((t.size : Int) < 3) = false := decide_eq_false (by omega)
  have h3 : ((3 : Int) ≤ (t.size : Int)) = True := eq_true (by omega)
  have h4 : (3 ≤ t.size) = True := eq_true hn
  have HN := Lib.hid hn
  have hsz : (t.extract 0 3).size = 3 := by simp; omega
  obtain ⟨cap, hcap⟩ : ∃ cap, grownCap w (t.extract 0 3).size 0 5 = cap := ⟨_, rfl⟩
  obtain ⟨W, hW⟩ : ∃ W, Lib.bytesWorld w 5 (t.extract 0 3) = W := ⟨_, rfl⟩
  have hcv : (convert 9 76 (.string (t.extract 0 3))).run Try.prog w = .ok (.slice (some ⟨w.heap.size, 0, none⟩) 3 cap) W := by
    rw [Lib.run_convert_string_bytes w 9 76 5 (t.extract 0 3) Try.underlying9 Try.underlying76 Try.underlying5, hcap, hsz, hW]
  have hB : Below w.heap.size w W := by rw [← hW]; exact bytes_below (Below.refl _ _) (Nat.le_refl _) _ _
  have hlq := World.block_lt_of_cell? w ⟨g, 0, none⟩ hq
  have hq1 : W.cell? ⟨g, 0, none⟩ = some (.string t) := (hB.cell hlq).trans hq
  have hz1 : W.frozen? ⟨g, 0, none⟩ = false := (hB.frozen hlq).trans hz
  have hbytes : ∀ j, j < 3 → W.cell? ⟨w.heap.size, j, none⟩ = some (.int .u8 (bt t (j : Int))) := fun j hj => by
    rw [← hW, Lib.bytesWorld_cell w _ _ j (by rw [hsz]; exact hj), sub_byte t 3 j hj hn]
  have HBY := Lib.hid hbytes
  have HB := Lib.hid hB
  clear hW hsz hcap hbytes hB hlq
  clear hn
  go_enter Try.func107, Try.ntmps107
  go_wp2
  clear hcv
  go_loopw [30, 6] (fun v30 v6 wr => ∃ i : Nat, i ≤ 3 ∧ v30 = .int .i64 (i : Int) ∧ v6 = .int .i64 (numAt t i) ∧ wr = W) (fun v30 _ _ => 3 - (intOf v30).toNat)
  case atStart => exact ⟨0, by omega, rfl, rfl, rfl⟩
  case round =>
    obtain ⟨i, hi, rfl, rfl, rfl⟩ := hrel
    by_cases hlt : i < 3
    · have g1 : decide ((i : Int) < 3) = true := decide_eq_true (by omega)
      have hcell := HBY.out i hlt
      have bd := numAt_small t i (by omega)
      have bb := bt_range t (i : Int)
      have hor := shl_or (numAt t i) (bt t (i : Int)) bd.1 bd.2 bb.1 bb.2
      have HOR := Lib.hid hor
      clear hor bd bb
      go_wp2
      refine ⟨⟨i + 1, by omega, by go_num, ?_, trivial⟩, by simp [intOf]; omega⟩
      rw [HOR.out]; rfl
    · have g1 : decide ((i : Int) < 3) = false := decide_eq_false (by omega)
      have hi2 : i = 3 := by omega
      subst hi2
      clear hlt hi
      have bd := numAt_bd t 3
      by_cases hv : 8388608 ≤ numAt t 3
      · have g2 : decide (8388608 ≤ numAt t 3) = true := decide_eq_true hv
        have HT := Lib.hid (show takeN t (-3) = wrap64 (numAt t 3 - 16777216) by
          have hp : ((256 : Int) ^ ((-3) : Int).natAbs) = 16777216 := rfl
          unfold takeN
          rw [hp, show ((-3) : Int).natAbs = 3 from rfl, if_pos ⟨by decide, by omega⟩]
          unfold wrap64; omega)
        clear hv bd
        go_wp2
        go_ret
        have bq := World.block_lt_of_cell? w ⟨g, 0, none⟩ hq
        refine ⟨by rw [HT.out]; rfl, World.cell?_setCell_same _ _ _ hq1, by rw [World.frozen?_setCell]; exact hz1, (HB.out.mono (Nat.le_of_lt bq)).setCell (Nat.le_refl _) _, KeepBut.set_ (KeepBut.of_below HB.out g none) _ _⟩
      · have g2 : decide (8388608 ≤ numAt t 3) = false := decide_eq_false hv
        have HT := Lib.hid (show takeN t (-3) = numAt t 3 by
          have hp : ((256 : Int) ^ ((-3) : Int).natAbs) = 16777216 := rfl
          unfold takeN
          rw [hp, show ((-3) : Int).natAbs = 3 from rfl, if_neg (by omega)])
        clear hv bd
        go_wp2
        go_ret
        have bq := World.block_lt_of_cell? w ⟨g, 0, none⟩ hq
        refine ⟨by rw [HT.out]; rfl, World.cell?_setCell_same _ _ _ hq1, by rw [World.frozen?_setCell]; exact hz1, (HB.out.mono (Nat.le_of_lt bq)).setCell (Nat.le_refl _) _, KeepBut.set_ (KeepBut.of_below HB.out g none) _ _⟩
theorem take_p4 (g : Nat) (t : ByteArray) (w : World) (hq : w.cell? ⟨g, 0, none⟩ = some (.string t)) (hz : w.frozen? ⟨g, 0, none⟩ = false) (hn : 4 ≤ t.size) :
    Calls Try.prog 107 #[.pointer (some ⟨g, 0, none⟩), .int .i64 4] w fun e w' => e = .returned (.int .i64 (takeN t 4)) ∧ w'.cell? ⟨g, 0, none⟩ = some (.string (t.extract 4 t.size)) ∧ w'.frozen? ⟨g, 0, none⟩ = false ∧ Below g w w' ∧ KeepBut w w' g none := by
  have h2 : decide ((t.size : Int) < 4) = false := decide_eq_false (by omega)
  have h3 : ((4 : Int) ≤ (t.size : Int)) = True := eq_true (by omega)
  have h4 : (4 ≤ t.size) = True := eq_true hn
  have HN := Lib.hid hn
  have hsz : (t.extract 0 4).size = 4 := by simp; omega
  obtain ⟨cap, hcap⟩ : ∃ cap, grownCap w (t.extract 0 4).size 0 5 = cap := ⟨_, rfl⟩
  obtain ⟨W, hW⟩ : ∃ W, Lib.bytesWorld w 5 (t.extract 0 4) = W := ⟨_, rfl⟩
  have hcv : (convert 9 76 (.string (t.extract 0 4))).run Try.prog w = .ok (.slice (some ⟨w.heap.size, 0, none⟩) 4 cap) W := by
    rw [Lib.run_convert_string_bytes w 9 76 5 (t.extract 0 4) Try.underlying9 Try.underlying76 Try.underlying5, hcap, hsz, hW]
  have hB : Below w.heap.size w W := by rw [← hW]; exact bytes_below (Below.refl _ _) (Nat.le_refl _) _ _
  have hlq := World.block_lt_of_cell? w ⟨g, 0, none⟩ hq
  have hq1 : W.cell? ⟨g, 0, none⟩ = some (.string t) := (hB.cell hlq).trans hq
  have hz1 : W.frozen? ⟨g, 0, none⟩ = false := (hB.frozen hlq).trans hz
  have hbytes : ∀ j, j < 4 → W.cell? ⟨w.heap.size, j, none⟩ = some (.int .u8 (bt t (j : Int))) := fun j hj => by
    rw [← hW, Lib.bytesWorld_cell w _ _ j (by rw [hsz]; exact hj), sub_byte t 4 j hj hn]
  have HBY := Lib.hid hbytes
  have HB := Lib.hid hB
  clear hW hsz hcap hbytes hB hlq
  clear hn
  go_enter Try.func107, Try.ntmps107
  go_wp2
  clear hcv
  go_loopw [30, 6] (fun v30 v6 wr => ∃ i : Nat, i ≤ 4 ∧ v30 = .int .i64 (i : Int) ∧ v6 = .int .i64 (numAt t i) ∧ wr = W) (fun v30 _ _ => 4 - (intOf v30).toNat)
  case atStart => exact ⟨0, by omega, rfl, rfl, rfl⟩
  case round =>
    obtain ⟨i, hi, rfl, rfl, rfl⟩ := hrel
    by_cases hlt : i < 4
    · have g1 : decide ((i : Int) < 4) = true := decide_eq_true (by omega)
      have hcell := HBY.out i hlt
      have bd := numAt_small t i (by omega)
      have bb := bt_range t (i : Int)
      have hor := shl_or (numAt t i) (bt t (i : Int)) bd.1 bd.2 bb.1 bb.2
      have HOR := Lib.hid hor
      clear hor bd bb
      go_wp2
      refine ⟨⟨i + 1, by omega, by go_num, ?_, trivial⟩, by simp [intOf]; omega⟩
      rw [HOR.out]; rfl
    · have g1 : decide ((i : Int) < 4) = false := decide_eq_false (by omega)
      have hi2 : i = 4 := by omega
      subst hi2
      clear hlt hi
      go_wp2
      go_ret
      have bq := World.block_lt_of_cell? w ⟨g, 0, none⟩ hq
      refine ⟨rfl, World.cell?_setCell_same _ _ _ hq1, by rw [World.frozen?_setCell]; exact hz1, (HB.out.mono (Nat.le_of_lt bq)).setCell (Nat.le_refl _) _, KeepBut.set_ (KeepBut.of_below HB.out g none) _ _⟩
theorem take_m4 (g : Nat) (t : ByteArray) (w : World) (hq : w.cell? ⟨g, 0, none⟩ = some (.string t)) (hz : w.frozen? ⟨g, 0, none⟩ = false) (hn : 4 ≤ t.size) :
    Calls Try.prog 107 #[.pointer (some ⟨g, 0, none⟩), .int .i64 (-4)] w fun e w' => e = .returned (.int .i64 (takeN t (-4))) ∧ w'.cell? ⟨g, 0, none⟩ = some (.string (t.extract 4 t.size)) ∧ w'.frozen? ⟨g, 0, none⟩ = false ∧ Below g w w' ∧ KeepBut w w' g none := by
  have h2 : decide ((t.size : Int) < 4) = false := decide_eq_false (by omega)
  have h3 : ((4 : Int) ≤ (t.size : Int)) = True := eq_true (by omega)
  have h4 : (4 ≤ t.size) = True := eq_true hn
  have HN := Lib.hid hn
  have hsz : (t.extract 0 4).size = 4 := by simp; omega
  obtain ⟨cap, hcap⟩ : ∃ cap, grownCap w (t.extract 0 4).size 0 5 = cap := ⟨_, rfl⟩
  obtain ⟨W, hW⟩ : ∃ W, Lib.bytesWorld w 5 (t.extract 0 4) = W := ⟨_, rfl⟩
  have hcv : (convert 9 76 (.string (t.extract 0 4))).run Try.prog w = .ok (.slice (some ⟨w.heap.size, 0, none⟩) 4 cap) W := by
    rw [Lib.run_convert_string_bytes w 9 76 5 (t.extract 0 4) Try.underlying9 Try.underlying76 Try.underlying5, hcap, hsz, hW]
  have hB : Below w.heap.size w W := by rw [← hW]; exact bytes_below (Below.refl _ _) (Nat.le_refl _) _ _
  have hlq := World.block_lt_of_cell? w ⟨g, 0, none⟩ hq
  have hq1 : W.cell? ⟨g, 0, none⟩ = some (.string t) := (hB.cell hlq).trans hq
  have hz1 : W.frozen? ⟨g, 0, none⟩ = false := (hB.frozen hlq).trans hz
  have hbytes : ∀ j, j < 4 → W.cell? ⟨w.heap.size, j, none⟩ = some (.int .u8 (bt t (j : Int))) := fun j hj => by
    rw [← hW, Lib.bytesWorld_cell w _ _ j (by rw [hsz]; exact hj), sub_byte t 4 j hj hn]
  have HBY := Lib.hid hbytes
  have HB := Lib.hid hB
  clear hW hsz hcap hbytes hB hlq
  clear hn
  go_enter Try.func107, Try.ntmps107
  go_wp2
  clear hcv
  go_loopw [30, 6] (fun v30 v6 wr => ∃ i : Nat, i ≤ 4 ∧ v30 = .int .i64 (i : Int) ∧ v6 = .int .i64 (numAt t i) ∧ wr = W) (fun v30 _ _ => 4 - (intOf v30).toNat)
  case atStart => exact ⟨0, by omega, rfl, rfl, rfl⟩
  case round =>
    obtain ⟨i, hi, rfl, rfl, rfl⟩ := hrel
    by_cases hlt : i < 4
    · have g1 : decide ((i : Int) < 4) = true := decide_eq_true (by omega)
      have hcell := HBY.out i hlt
      have bd := numAt_small t i (by omega)
      have bb := bt_range t (i : Int)
      have hor := shl_or (numAt t i) (bt t (i : Int)) bd.1 bd.2 bb.1 bb.2
      have HOR := Lib.hid hor
      clear hor bd bb
      go_wp2
      refine ⟨⟨i + 1, by omega, by go_num, ?_, trivial⟩, by simp [intOf]; omega⟩
      rw [HOR.out]; rfl
    · have g1 : decide ((i : Int) < 4) = false := decide_eq_false (by omega)
      have hi2 : i = 4 := by omega
      subst hi2
      clear hlt hi
      have bd := numAt_bd t 4
      by_cases hv : 2147483648 ≤ numAt t 4
      · have g2 : decide (2147483648 ≤ numAt t 4) = true := decide_eq_true hv
        have HT := Lib.hid (show takeN t (-4) = wrap64 (numAt t 4 - 4294967296) by
          have hp : ((256 : Int) ^ ((-4) : Int).natAbs) = 4294967296 := rfl
          unfold takeN
          rw [hp, show ((-4) : Int).natAbs = 4 from rfl, if_pos ⟨by decide, by omega⟩]
          unfold wrap64; omega)
        clear hv bd
        go_wp2
        go_ret
        have bq := World.block_lt_of_cell? w ⟨g, 0, none⟩ hq
        refine ⟨by rw [HT.out]; rfl, World.cell?_setCell_same _ _ _ hq1, by rw [World.frozen?_setCell]; exact hz1, (HB.out.mono (Nat.le_of_lt bq)).setCell (Nat.le_refl _) _, KeepBut.set_ (KeepBut.of_below HB.out g none) _ _⟩
      · have g2 : decide (2147483648 ≤ numAt t 4) = false := decide_eq_false hv
        have HT := Lib.hid (show takeN t (-4) = numAt t 4 by
          have hp : ((256 : Int) ^ ((-4) : Int).natAbs) = 4294967296 := rfl
          unfold takeN
          rw [hp, show ((-4) : Int).natAbs = 4 from rfl, if_neg (by omega)])
        clear hv bd
        go_wp2
        go_ret
        have bq := World.block_lt_of_cell? w ⟨g, 0, none⟩ hq
        refine ⟨by rw [HT.out]; rfl, World.cell?_setCell_same _ _ _ hq1, by rw [World.frozen?_setCell]; exact hz1, (HB.out.mono (Nat.le_of_lt bq)).setCell (Nat.le_refl _) _, KeepBut.set_ (KeepBut.of_below HB.out g none) _ _⟩
theorem take_ok (g : Nat) (t : ByteArray) (s : Int) (w : World) (hq : w.cell? ⟨g, 0, none⟩ = some (.string t)) (hz : w.frozen? ⟨g, 0, none⟩ = false) (hs : isSize s = true) (hn : s.natAbs ≤ t.size) :
    Calls Try.prog 107 #[.pointer (some ⟨g, 0, none⟩), .int .i64 s] w fun e w' => e = .returned (.int .i64 (takeN t s)) ∧ w'.cell? ⟨g, 0, none⟩ = some (.string (t.extract s.natAbs t.size)) ∧ w'.frozen? ⟨g, 0, none⟩ = false ∧ Below g w w' ∧ KeepBut w w' g none := by
  have h := of_decide_eq_true hs
  have : s = -4 ∨ s = -3 ∨ s = -2 ∨ s = -1 ∨ s = 1 ∨ s = 2 ∨ s = 3 ∨ s = 4 := by omega
  clear hs h
  rcases this with rfl | rfl | rfl | rfl | rfl | rfl | rfl | rfl
  · exact take_m4 g t w hq hz hn
  · exact take_m3 g t w hq hz hn
  · exact take_m2 g t w hq hz hn
  · exact take_m1 g t w hq hz hn
  · exact take_p1 g t w hq hz hn
  · exact take_p2 g t w hq hz hn
  · exact take_p3 g t w hq hz hn
  · exact take_p4 g t w hq hz hn
end Go.Proofs.Ytgifenlfklbdgaa.P
