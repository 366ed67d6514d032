/- Words, contracts and plain facts of the proof. Each says its own condition. -/
import Derived.Test.YtejdflndgnpkcaaGreatZCmapDoese
import Derived.Recover
import Derived.Defers
import Derived.WalkKit
import Derived.WalkLawsBesides
import Derived.Lib.Hide
import Derived.Deep.RegionHeld3
set_option linter.unusedVariables false
set_option maxRecDepth 100000
set_option linter.unusedSimpArgs false
set_option maxHeartbeats 16000000
section
namespace Go.Proofs.YtejdflndgnpkcaaGreat.P
open Go.RowKit PW PL PM
set_option maxRecDepth 100000
attribute [local go_sem] max2_int min2_int max_two min_two max_three min_three max_four min_four
def numAt (t : ByteArray) : Nat → Int
 | 0 => 0
 | n + 1 => numAt t n * 256 + bt t (n : Int)
def isSize (s : Int) : Bool := decide (s ≠ 0 ∧ -4 ≤ s ∧ s ≤ 4)
def takeN (t : ByteArray) (s : Int) : Int :=
 if s < 0 ∧ (256 : Int) ^ s.natAbs ≤ 2 * numAt t s.natAbs then numAt t s.natAbs - 256 ^ s.natAbs else numAt t s.natAbs
theorem numAt_bd (t : ByteArray) : ∀ n, 0 ≤ numAt t n ∧ numAt t n < 256 ^ n
 | 0 => by simp [numAt]
 | n + 1 => by
  have h := numAt_bd t n;have b := bt_range t (n : Int);simp only [numAt];rw [Int.pow_succ];generalize (256 : Int) ^ n = P at *
  omega
theorem take_more (q : Addr) (t : ByteArray) (s : Int) (w : World) (hq : w.cell? q = some (.string t)) (hs : isSize s = true) (hn : t.size < s.natAbs) :
  Calls Tryz.prog 42 #[.pointer (some q), .int .i64 s] w fun e w' => e = .panicked [{ v := .iface 24 (.int .i64 4), recovered := false }] ∧ w' = w := by
 have h := of_decide_eq_true hs;have : s = -4 ∨ s = -3 ∨ s = -2 ∨ s = -1 ∨ s = 1 ∨ s = 2 ∨ s = 3 ∨ s = 4 := by omega
 clear hs h;rcases this with rfl | rfl | rfl | rfl | rfl | rfl | rfl | rfl
 all_goals
  first | (have h1 : decide ((t.size : Int) < 1) = true := decide_eq_true (by omega); have h2 : decide (t.size < 1) = true := decide_eq_true (by omega)) | (have h1 : decide ((t.size : Int) < 2) = true := decide_eq_true (by omega); have h2 : decide (t.size < 2) = true := decide_eq_true (by omega)) | (have h1 : decide ((t.size : Int) < 3) = true := decide_eq_true (by omega); have h2 : decide (t.size < 3) = true := decide_eq_true (by omega)) | (have h1 : decide ((t.size : Int) < 4) = true := decide_eq_true (by omega); have h2 : decide (t.size < 4) = true := decide_eq_true (by omega))
  clear hn;go_enter Tryz.func42, Tryz.ntmps42;go_wp2;exact ⟨rfl, rfl, rfl⟩
theorem shl_or (v b : Int) (h0 : 0 ≤ v) (h1 : v < 4294967296) (hb0 : 0 ≤ b) (hb : b ≤ 255) : bits .or .i64 (wrap64 (v * 256)) (wrap64 b) = v * 256 + b := by
 have e1 : wrap64 (v * 256) = v * 256 := by unfold wrap64; omega
 have e2 : wrap64 b = b := by unfold wrap64; omega
 rw [e1, e2];exact bits_join .i64 63 (by decide) (fun n h₀ h₁ => by rw [IntKind.wrap_i64]; omega) 8 (v * 256) b (by omega) (by omega) (by omega) hb0 (by omega) (by omega)
theorem sub_byte (t : ByteArray) (n j : Nat) (hj : j < n) (hn : n ≤ t.size) : (((t.extract 0 n).data.toList.getD j 0).toNat : Int) = bt t (j : Int) := by
 have h1 : j < t.size := Nat.lt_of_lt_of_le hj hn
 have e : (t.extract 0 n).data.toList = t.data.toList.take n := by
  rw [ByteArray.data_extract, Array.toList_extract];simp
 rw [e, List.getD_eq_getElem?_getD, List.getElem?_take_of_lt hj];unfold bt;rw [Int.toNat_natCast, dif_pos h1, List.getElem?_eq_getElem (by simpa using h1)];rfl
theorem numAt_small (t : ByteArray) (i : Nat) (h : i ≤ 3) : 0 ≤ numAt t i ∧ numAt t i < 4294967296 := by
 have b := numAt_bd t i;have : i = 0 ∨ i = 1 ∨ i = 2 ∨ i = 3 := by omega
 rcases this with rfl | rfl | rfl | rfl <;> omega
theorem take_ok (g : Nat) (t : ByteArray) (s : Int) (w : World) (hq : w.cell? ⟨g, 0, none⟩ = some (.string t)) (hz : w.frozen? ⟨g, 0, none⟩ = false) (hs : isSize s = true) (hn : s.natAbs ≤ t.size) :
  Calls Tryz.prog 42 #[.pointer (some ⟨g, 0, none⟩), .int .i64 s] w fun e w' => e = .returned (.int .i64 (takeN t s)) ∧ w'.cell? ⟨g, 0, none⟩ = some (.string (t.extract s.natAbs t.size)) ∧ w'.frozen? ⟨g, 0, none⟩ = false ∧ Below g w w' ∧ KeepBut w w' g none := by
 obtain ⟨n, m, b, c, hd⟩ : ∃ (n : Nat) (m b c : Int), (n = 1 ∧ m = 1 ∧ b = 128 ∧ c = 256 ∧ (s = 1 ∨ s = -1)) ∨ (n = 2 ∧ m = 2 ∧ b = 32768 ∧ c = 65536 ∧ (s = 2 ∨ s = -2)) ∨ (n = 3 ∧ m = 3 ∧ b = 8388608 ∧ c = 16777216 ∧ (s = 3 ∨ s = -3)) ∨ (n = 4 ∧ m = 4 ∧ b = 2147483648 ∧ c = 4294967296 ∧ (s = 4 ∨ s = -4)) := by
  have h := of_decide_eq_true hs;have : s = -4 ∨ s = -3 ∨ s = -2 ∨ s = -1 ∨ s = 1 ∨ s = 2 ∨ s = 3 ∨ s = 4 := by omega
  rcases this with rfl | rfl | rfl | rfl | rfl | rfl | rfl | rfl
  · exact ⟨4, 4, _, _, .inr (.inr (.inr ⟨rfl, rfl, rfl, rfl, .inr rfl⟩))⟩
  · exact ⟨3, 3, _, _, .inr (.inr (.inl ⟨rfl, rfl, rfl, rfl, .inr rfl⟩))⟩
  · exact ⟨2, 2, _, _, .inr (.inl ⟨rfl, rfl, rfl, rfl, .inr rfl⟩)⟩
  · exact ⟨1, 1, _, _, .inl ⟨rfl, rfl, rfl, rfl, .inr rfl⟩⟩
  · exact ⟨1, 1, _, _, .inl ⟨rfl, rfl, rfl, rfl, .inl rfl⟩⟩
  · exact ⟨2, 2, _, _, .inr (.inl ⟨rfl, rfl, rfl, rfl, .inl rfl⟩)⟩
  · exact ⟨3, 3, _, _, .inr (.inr (.inl ⟨rfl, rfl, rfl, rfl, .inl rfl⟩))⟩
  exact ⟨4, 4, _, _, .inr (.inr (.inr ⟨rfl, rfl, rfl, rfl, .inl rfl⟩))⟩
 have hsn : s.natAbs = n := by omega
 have hp : (256 : Int) ^ n = c := by
  rcases hd with ⟨rfl, _, _, rfl, _⟩ | ⟨rfl, _, _, rfl, _⟩ | ⟨rfl, _, _, rfl, _⟩ | ⟨rfl, _, _, rfl, _⟩ <;> rfl
 have hv : s < 0 ∧ b ≤ numAt t n ∨ s < 0 ∧ ¬ b ≤ numAt t n ∨ 0 < s := by omega
 have HT : Aside0 (if s < 0 ∧ b ≤ numAt t n then takeN t s = wrap64 (numAt t n - c) else takeN t s = numAt t n) := by
  have bd := numAt_bd t n;rw [hp] at bd;unfold takeN;rw [hsn, hp];have hc : c = 2 * b := by omega
  by_cases h : s < 0 ∧ b ≤ numAt t n
  ·
   rw [if_pos h, if_pos ⟨h.1, by omega⟩];refine ⟨?_⟩;have : c ≤ 4294967296 := by omega
   unfold wrap64; omega
  rw [if_neg h, if_neg (by omega)];exact ⟨rfl⟩
 rw [hsn] at hn ⊢;have h2 : decide ((t.size : Int) < m) = false := decide_eq_false (by omega);have h3 : (m ≤ (t.size : Int)) = True := eq_true (by omega);have h4 : (n ≤ t.size) = True := eq_true hn;have hsz : (t.extract 0 n).size = n := by simp; omega
 obtain ⟨cap, hcap⟩ : ∃ cap, grownCap w (t.extract 0 n).size 0 5 = cap := ⟨_, rfl⟩;obtain ⟨W, hW⟩ : ∃ W, Lib.bytesWorld w 5 (t.extract 0 n) = W := ⟨_, rfl⟩
 have hcv : (convert 9 81 (.string (t.extract 0 n))).run Tryz.prog w = .ok (.slice (some ⟨w.heap.size, 0, none⟩) n cap) W := by
  rw [Lib.run_convert_string_bytes w 9 81 5 (t.extract 0 n) Tryz.underlying9 Tryz.underlying81 Tryz.underlying5, hcap, hsz, hW]
 have hB : Below w.heap.size w W := by rw [← hW]; exact bytes_below (Below.refl _ _) (Nat.le_refl _) _ _
 have hlq := World.block_lt_of_cell? w ⟨g, 0, none⟩ hq;have hq1 : W.cell? ⟨g, 0, none⟩ = some (.string t) := (hB.cell hlq).trans hq;have hz1 : W.frozen? ⟨g, 0, none⟩ = false := (hB.frozen hlq).trans hz
 have hbytes : ∀ j, j < n → W.cell? ⟨w.heap.size, j, none⟩ = some (.int .u8 (bt t (j : Int))) := fun j hj => by
  rw [← hW, Lib.bytesWorld_cell w _ _ j (by rw [hsz]; exact hj), sub_byte t n j hj hn]
 obtain ⟨J, hJ⟩ : ∃ J : Value → Value → World → Prop, J = fun v30 v6 wr => ∃ i : Nat, i ≤ n ∧ v30 = .int .i64 (i : Int) ∧ v6 = .int .i64 (numAt t i) ∧ wr = W := ⟨_, rfl⟩
 have HX := hI (show ∀ i : Nat, i ≤ n → (i < n ∧ i < 4 ∧ decide ((i : Int) < m) = true) ∨ (i = n ∧ decide ((i : Int) < m) = false) by
  intro i hi;by_cases h : i < n
  · exact .inl ⟨h, by omega, decide_eq_true (by omega)⟩
  exact .inr ⟨by omega, decide_eq_false (by omega)⟩)
 have HBY := hI hbytes;have HB := hI hB;have HJ := hI hJ;clear hW hsz hcap hbytes hB hlq hsn hp hn hs hJ;rcases hv with ⟨hv, hx⟩ | ⟨hv, hx⟩ | hv
 all_goals
  first | (have g2 : decide (b ≤ numAt t n) = true := decide_eq_true hx; have HU := HT.out; rw [if_pos ⟨hv, hx⟩] at HU) | (have g2 : decide (b ≤ numAt t n) = false := decide_eq_false hx; have HU := HT.out; rw [if_neg (fun h => hx h.2)] at HU) | (have HU := HT.out; rw [if_neg (fun h => absurd h.1 (by omega))] at HU)
  clear HT;replace HU := hI HU;try clear hx
  rcases hd with ⟨rfl, rfl, rfl, rfl, rfl | rfl⟩ | ⟨rfl, rfl, rfl, rfl, rfl | rfl⟩ | ⟨rfl, rfl, rfl, rfl, rfl | rfl⟩ | ⟨rfl, rfl, rfl, rfl, rfl | rfl⟩
  all_goals first | exact absurd hv (by decide) | skip
  all_goals
   clear hv;go_enter Tryz.func42, Tryz.ntmps42;go_wp2;clear hcv;go_loopw [30, 6] J (fun v30 _ _ => 4 - (intOf v30).toNat)
   case atStart => rw [HJ.out]; exact ⟨0, by omega, rfl, rfl, rfl⟩
   case round =>
    rw [HJ.out] at hrel;obtain ⟨i, hi, rfl, rfl, rfl⟩ := hrel;rcases HX.out i hi with ⟨hlt, hl4, g1⟩ | ⟨rfl, g1⟩
    ·
     have hcell := HBY.out i hlt;have bd := numAt_small t i (by omega);have bb := bt_range t (i : Int);have HOR := hI (shl_or (numAt t i) (bt t (i : Int)) bd.1 bd.2 bb.1 bb.2);clear bd bb;go_wp2;refine ⟨by rw [HJ.out]; exact ⟨i + 1, by omega, by go_num, by rw [HOR.out]; rfl, rfl⟩, by simp [intOf]; omega⟩
    clear hi;go_wp2;go_ret;have bq := World.block_lt_of_cell? w ⟨g, 0, none⟩ hq;refine ⟨by rw [HU.out]; rfl, World.cell?_setCell_same _ _ _ hq1, by rw [World.frozen?_setCell]; exact hz1, (HB.out.mono (Nat.le_of_lt bq)).setCell (Nat.le_refl _) _, KeepBut.set_ (KeepBut.of_below HB.out g none) _ _⟩
def bin_right.l0 : Nat → List Int → Int → Int → Option (Bool)
 | 0, _, _, _ => none
 | k + 1, x5, x6, x7 => if x7 < x6 then (if 0 ≤ x7 then (if x7 < (x5.length : Int) then (if (rd x5 x7) = 0 then (some false) else (if (rd x5 x7) < (-4) then (some false) else (if (rd x5 x7) > 4 then (some false) else (bin_right.l0 k x5 x6 (wrap64 (x7 + 1)))))) else (none)) else (none)) else (some true)
def bin_right.f (k : Nat) (l0 : List Int) : Option (Bool) := bin_right.l0 k l0 (l0.length : Int) 0
theorem bin_right.calls (k : Nat) (A0 : Option Addr) (c0 : Nat) (l0 : List Int) (r : Bool) (w : World) (hr0 : Kd.C (Kd.int .i64) w A0 l0.length l0) (hc0 : l0.length ≤ c0) (h : bin_right.f k l0 = some r) :
  Calls Tryz.prog 41 #[.slice A0 l0.length c0] w fun e w' => e = .returned (.bool r) ∧ Drawn0 w w' := by
 have HR0 := aK hr0;have HC0 := aK hc0;clear hr0 hc0;have H : (bin_right.l0 k l0 (l0.length : Int) 0) = some r := h;clear h;have H' := aK H;clear H;go_enter Tryz.func41, Tryz.ntmps41;go_wp2;go_loopg [7] k (fun kq v7 w' => ∃ (x7_1 : Int), v7 = .int .i64 x7_1 ∧ Aside0 (bin_right.l0 kq l0 (l0.length : Int) x7_1 = some r) ∧ Aside0 (kq ≤ k) ∧ Drawn0 w w')
 case atStart => exact ⟨(0), gA, H', ⟨Nat.le_refl _⟩, by repeat (first | exact Drawn0.refl _ | apply Drawn0.step)⟩
 case round =>
  clear H';obtain ⟨x7_1, rfl, HA, HK1, ⟨m1, rfl⟩⟩ := hrel;cases gk with
  | zero => exact absurd HA.out (by simp [bin_right.l0])
  | succ k1 =>
   have H := HA.out;clear HA;simp only [bin_right.l0] at H;replace H := qL H;rcases H with ⟨c2b0, H⟩ | ⟨c2b0, H⟩
   ·
    replace H := nL H;obtain ⟨c3b0, H⟩ := H;replace H := nL H;obtain ⟨c4b0, H⟩ := H;replace H := qF H;rcases H with ⟨c5b0, c5b1, H⟩ | ⟨c5b0, c5b1, H⟩
    ·
     obtain rfl := Option.some.inj H;obtain ⟨p127, q127, ad127, e127, hx127_0⟩ := aT (Kd.at_int HR0.out x7_1);cases e127
     go_wp2;go_ret;exact ⟨by first | rfl | (simp; done) | (simp [*]; done), by repeat (first | exact Drawn0.refl _ | apply Drawn0.step)⟩
    replace H := qL H;rcases H with ⟨c6b0, H⟩ | ⟨c6b0, H⟩
    ·
     obtain rfl := Option.some.inj H;obtain ⟨p127, q127, ad127, e127, hx127_0⟩ := aT (Kd.at_int HR0.out x7_1);cases e127
     go_wp2;go_ret;exact ⟨by first | rfl | (simp; done) | (simp [*]; done), by repeat (first | exact Drawn0.refl _ | apply Drawn0.step)⟩
    replace H := qM H;rcases H with ⟨c7b0, H⟩ | ⟨c7b0, H⟩
    ·
     obtain rfl := Option.some.inj H;obtain ⟨p127, q127, ad127, e127, hx127_0⟩ := aT (Kd.at_int HR0.out x7_1);cases e127
     go_wp2;go_ret;exact ⟨by first | rfl | (simp; done) | (simp [*]; done), by repeat (first | exact Drawn0.refl _ | apply Drawn0.step)⟩
    have H' := aK H;clear H;obtain ⟨p127, q127, ad127, e127, hx127_0⟩ := aT (Kd.at_int HR0.out x7_1);cases e127
    go_wp2;go_roundg k1
    case measure => exact oK
    case rel => exact ⟨(wrap64 (x7_1 + 1)), gA, H', ⟨oK⟩, by repeat (first | exact Drawn0.refl _ | apply Drawn0.step)⟩
   obtain rfl := Option.some.inj H;go_wp2;go_ret;exact ⟨by first | rfl | (simp; done) | (simp [*]; done), by repeat (first | exact Drawn0.refl _ | apply Drawn0.step)⟩
end Go.Proofs.YtejdflndgnpkcaaGreat.P
end
section
namespace Go.Proofs.YtejdflndgnpkcaaGreat.P
open Go.RowKit PW PL PM
set_option maxRecDepth 100000
attribute [local go_sem] max2_int min2_int max_two min_two max_three min_three max_four min_four
def takes (t : ByteArray) : List Int → Option (List Int)
 | [] => some []
 | s :: r => if s.natAbs ≤ t.size then (takes (t.extract s.natAbs t.size) r).map (takeN t s :: ·) else none
def areSizes (l : List Int) : Bool := l.all isSize
def getN (s : ByteArray) (at_ : Int) (l : List Int) : List Int × Int :=
 if at_ < 0 ∨ areSizes l = false then ([], 1) else if at_ > (s.size : Int) then ([], 4) else match takes (s.extract at_.toNat s.size) l with
  | none => ([], 4)
  | some r => (r, 0)
theorem bin_right.l0_eq (l : List Int) (hl : l.length ≤ 9223372036854775806) (d : Nat) : ∀ (k i : Nat), l.length - i = d → i ≤ l.length → d < k →
  bin_right.l0 k l (l.length : Int) (i : Int) = some (areSizes (l.drop i)) := by
 induction d with
 | zero =>
  intro k i hd hi hk;obtain ⟨k, rfl⟩ : ∃ m, k = m + 1 := ⟨k - 1, by omega⟩;have : i = l.length := by omega
  subst this;simp only [bin_right.l0];rw [if_neg (by omega)];simp [areSizes]
 | succ d ih =>
  intro k i hd hi hk;obtain ⟨k, rfl⟩ : ∃ m, k = m + 1 := ⟨k - 1, by omega⟩;have hlt : i < l.length := by omega
  simp only [bin_right.l0];rw [if_pos (by omega), if_pos (by omega), if_pos (by omega)];have hr : rd l (i : Int) = l[i] := by unfold rd; simp [List.getD_eq_getElem?_getD, List.getElem?_eq_getElem hlt]
  have hw : wrap64 ((i : Int) + 1) = ((i + 1 : Nat) : Int) := by unfold wrap64; omega
  have hdr : l.drop i = l[i] :: l.drop (i + 1) := List.drop_eq_getElem_cons hlt;rw [hr, hw, hdr];simp only [areSizes, List.all_cons];by_cases h0 : l[i] = 0
  · rw [if_pos h0]; simp [isSize, h0]
  rw [if_neg h0];by_cases h1 : l[i] < -4
  · rw [if_pos h1]; simp [isSize]; omega
  rw [if_neg h1];by_cases h2 : l[i] > 4
  · rw [if_pos h2]; simp [isSize]; omega
  rw [if_neg h2];have := ih k (i + 1) (by omega) (by omega) (by omega);rw [this];have h3 : isSize l[i] = true := by unfold isSize; exact decide_eq_true (by omega)
  rw [h3]; simp [areSizes]
theorem bin_right.f_eq (l : List Int) (hl : l.length ≤ 9223372036854775806) : bin_right.f (l.length + 1) l = some (areSizes l) := by
 have := bin_right.l0_eq l hl l.length (l.length + 1) 0 (by omega) (by omega) (by omega);simpa [bin_right.f] using this
structure GetW (w : World) (g : Nat) (W : World) (v : Value) (xs : List Int) (t : ByteArray) : Prop where
 c1 : W.cell? ⟨w.heap.size, 0, none⟩ = some v
 z1 : W.frozen? ⟨w.heap.size, 0, none⟩ = false
 c2 : W.cell? ⟨w.heap.size + 1, 0, none⟩ = some (.int .i64 0)
 z2 : W.frozen? ⟨w.heap.size + 1, 0, none⟩ = false
 c3 : W.cell? ⟨g, 0, none⟩ = some (.string t)
 z3 : W.frozen? ⟨g, 0, none⟩ = false
 hg : w.heap.size + 2 ≤ g
 hs : g < W.heap.size
 hB : Below w.heap.size w W
 r : Kd.R (Kd.int .i64) 3 W w.heap.size (fun k => g < k) v xs
theorem cell_of {W W' : World} {a : Addr} (hh : W'.heap[a.block]? = W.heap[a.block]?) : W'.cell? a = W.cell? a := by unfold World.cell?; rw [hh]
theorem frozen_of {W W' : World} {a : Addr} (hh : W'.heap[a.block]? = W.heap[a.block]?) : W'.frozen? a = W.frozen? a := by unfold World.frozen?; rw [hh]
namespace GetW
variable {w W W' : World} {g : Nat} {v : Value} {xs : List Int} {t : ByteArray}
theorem below (h : GetW w g W v xs t) (hb : Below W.heap.size W W') : GetW w g W' v xs t := by
 have := h.hs;have := h.hg;exact ⟨by rw [hb.cell (by simp; omega)]; exact h.c1, by rw [hb.frozen (by simp; omega)]; exact h.z1, by rw [hb.cell (by simp; omega)]; exact h.c2, by rw [hb.frozen (by simp; omega)]; exact h.z2, by rw [hb.cell (by simp; omega)]; exact h.c3, by rw [hb.frozen (by simp; omega)]; exact h.z3, h.hg, by have := hb.size; omega, below_then h.hB h.hB.size hb, Kd.R_below h.r hb⟩
theorem took (h : GetW w g W v xs t) {t' : ByteArray} (hc : W'.cell? ⟨g, 0, none⟩ = some (.string t')) (hz : W'.frozen? ⟨g, 0, none⟩ = false) (hb : Below g W W') (hk : KeepBut W W' g none) : GetW w g W' v xs t' := by
 have hs := h.hs;have hg := h.hg;have e1 : W'.heap[w.heap.size]? = W.heap[w.heap.size]? := hb.block _ (by omega);have e2 : W'.heap[w.heap.size + 1]? = W.heap[w.heap.size + 1]? := hb.block _ (by omega);exact ⟨(cell_of e1).trans h.c1, (frozen_of e1).trans h.z1, (cell_of e2).trans h.c2, (frozen_of e2).trans h.z2, hc, hz, hg, by have := hb.size; omega, h.hB.trans (hb.mono (by omega)), Kd.R_keep h.r hk (fun k hk2 => by omega)⟩
theorem grew (h : GetW w g W v xs t) {v1 : Value} {ys : List Int} (hr : Kd.R (Kd.int .i64) 3 W' w.heap.size (fun k => g < k) v1 ys) (hb : Below w.heap.size w W') (hgr : W.grownBy W' v.ownBlock) :
  W'.cell? ⟨w.heap.size, 0, none⟩ = some v ∧ W'.frozen? ⟨w.heap.size, 0, none⟩ = false ∧ GetW w g (W'.setCell ⟨w.heap.size, 0, none⟩ v1) v1 ys t := by
 have hs := h.hs;have hg := h.hg;have ne : ∀ k, k ≤ g → some k ≠ v.ownBlock := fun k hk e => by have := h.r.1 k e.symm; omega
 have e1 : W'.heap[w.heap.size]? = W.heap[w.heap.size]? := hgr.block _ (by omega) (ne _ (by omega));have e2 : W'.heap[w.heap.size + 1]? = W.heap[w.heap.size + 1]? := hgr.block _ (by omega) (ne _ (by omega));have e3 : W'.heap[g]? = W.heap[g]? := hgr.block _ (by omega) (ne _ (by omega));have c1 : W'.cell? ⟨w.heap.size, 0, none⟩ = some v := (cell_of e1).trans h.c1;have z1 : W'.frozen? ⟨w.heap.size, 0, none⟩ = false := (frozen_of e1).trans h.z1;refine ⟨c1, z1, World.cell?_setCell_same _ _ _ c1, by rw [World.frozen?_setCell]; exact z1, ?_, ?_, ?_, ?_, hg, ?_, hb.setCell (Nat.le_refl _) _, Kd.R_far hr (fun k hk => by show k ≠ w.heap.size; omega) _⟩
 · rw [World.cell?_setCell_other _ _ _ _ (by intro e; have := congrArg Addr.block e; simp at this)]; exact (cell_of e2).trans h.c2
 · rw [World.frozen?_setCell]; exact (frozen_of e2).trans h.z2
 · rw [World.cell?_setCell_other _ _ _ _ (by intro e; have := congrArg Addr.block e; simp at this; omega)]; exact (cell_of e3).trans h.c3
 · rw [World.frozen?_setCell]; exact (frozen_of e3).trans h.z3
 have := hgr.size; simp; omega
theorem stored (h : GetW w g W v xs t) :
  ((W.setCell ⟨w.heap.size, 0, none⟩ v).setCell ⟨w.heap.size + 1, 0, none⟩ (.int .i64 0)).cell? ⟨w.heap.size, 0, none⟩ = some v ∧ ((W.setCell ⟨w.heap.size, 0, none⟩ v).setCell ⟨w.heap.size + 1, 0, none⟩ (.int .i64 0)).cell? ⟨w.heap.size + 1, 0, none⟩ = some (.int .i64 0) ∧
   Kd.R (Kd.int .i64) 3 ((W.setCell ⟨w.heap.size, 0, none⟩ v).setCell ⟨w.heap.size + 1, 0, none⟩ (.int .i64 0)) w.heap.size (fun _ => True) v xs ∧ Below w.heap.size w ((W.setCell ⟨w.heap.size, 0, none⟩ v).setCell ⟨w.heap.size + 1, 0, none⟩ (.int .i64 0)) := by
 have hg := h.hg;have n1 : (⟨w.heap.size, 0, none⟩ : Addr) ≠ ⟨w.heap.size + 1, 0, none⟩ := by intro e; have := congrArg Addr.block e; simp at this
 have c2 : (W.setCell ⟨w.heap.size, 0, none⟩ v).cell? ⟨w.heap.size + 1, 0, none⟩ = some (.int .i64 0) := by rw [World.cell?_setCell_other _ _ _ _ n1]; exact h.c2
 refine ⟨?_, World.cell?_setCell_same _ _ _ c2, ?_, (h.hB.setCell (Nat.le_refl _) _).setCell (by simp) _⟩
 · rw [World.cell?_setCell_other _ _ _ _ (Ne.symm n1)]; exact World.cell?_setCell_same _ _ _ h.c1
 exact Kd.R_mono (Kd.R_far (Kd.R_far h.r (fun k hk => by show k ≠ w.heap.size; omega) _) (fun k hk => by show k ≠ w.heap.size + 1; omega) _) (fun _ _ => trivial)
theorem failed (h : GetW w g W v xs t) (nd : Nat) :
  (((W.setCell ⟨w.heap.size, 0, none⟩ (.slice none 0 0)).setCell ⟨w.heap.size + 1, 0, none⟩ (.int .i64 4)).drewN nd).cell? ⟨w.heap.size, 0, none⟩ = some (.slice none 0 0) ∧ (((W.setCell ⟨w.heap.size, 0, none⟩ (.slice none 0 0)).setCell ⟨w.heap.size + 1, 0, none⟩ (.int .i64 4)).drewN nd).cell? ⟨w.heap.size + 1, 0, none⟩ = some (.int .i64 4) ∧
   Below w.heap.size w (((W.setCell ⟨w.heap.size, 0, none⟩ (.slice none 0 0)).setCell ⟨w.heap.size + 1, 0, none⟩ (.int .i64 4)).drewN nd) := by
 have n1 : (⟨w.heap.size, 0, none⟩ : Addr) ≠ ⟨w.heap.size + 1, 0, none⟩ := by intro e; have := congrArg Addr.block e; simp at this
 have c2 : (W.setCell ⟨w.heap.size, 0, none⟩ (.slice none 0 0)).cell? ⟨w.heap.size + 1, 0, none⟩ = some (.int .i64 0) := by rw [World.cell?_setCell_other _ _ _ _ n1]; exact h.c2
 have d2 := World.cell?_setCell_same (W.setCell ⟨w.heap.size, 0, none⟩ (.slice none 0 0)) ⟨w.heap.size + 1, 0, none⟩ (.int .i64 4) c2
 have d1 : ((W.setCell ⟨w.heap.size, 0, none⟩ (.slice none 0 0)).setCell ⟨w.heap.size + 1, 0, none⟩ (.int .i64 4)).cell? ⟨w.heap.size, 0, none⟩ = some (.slice none 0 0) := by
  rw [World.cell?_setCell_other _ _ _ _ (Ne.symm n1)]; exact World.cell?_setCell_same _ _ _ h.c1
 exact ⟨d1, d2, pw_below_drewN ((h.hB.setCell (Nat.le_refl _) _).setCell (by simp) _) nd⟩
end GetW
theorem get_panicking (p q : Addr) (hpq : p.block ≠ q.block) (x : Value) (y c : Int) (older : List PanicEntry) (w : World) (hp : w.cell? p = some x) (hpz : w.frozen? p = false) (hq : w.cell? q = some (.int .i64 y)) (hqz : w.frozen? q = false) :
  CallsD Tryz.prog 40 #[.pointer (some p), .pointer (some q)] (.panicking ({ v := .iface 24 (.int .i64 c), recovered := false } :: older)) w fun e u' w' =>
   e = .returned (.tuple #[]) ∧ u' = .panicking ({ v := .iface 24 (.int .i64 c), recovered := true } :: older) ∧ ∃ n, w' = (((w.setCell p (.slice none 0 0)).setCell q (.int .i64 c))).drewN n := by
 refine callsD_of_wpS Tryz.func40 rfl fun c₀ cs hu => ?_
 apply wpS_seq
 apply wpS_region
 simp [wpOpsS, go_sem, recoverD, hu, Tryz.ntmps40, Exit.thenS]
 apply wpS_seq
 apply wpS_region
 simp [wpOpsS, go_sem, Exit.thenS]
 refine wpS_cond (t := true) (by simp [Act.eval, Array.replicate]) ?_;simp only [if_true];have hta : ∀ (v : Value) (W : World), (Instr.typeAssert (.iface 24 v) 20 24 false).run Tryz.prog W = .ok v W := fun v W => by rfl
 refine wpS_of_wp (Code.wp_mono (Q := fun e a' w' => e = .normal ∧ a'.defers = [] ∧ w' = (((w.setCell p (.slice none 0 0)).setCell q (.int .i64 c))).drewN 1) ?_ ?_)
 ·
  rintro e a' w' ⟨rfl, hd, hw⟩;cases c₀
  simp_all [bodyPostS, results, Tryz.results40]
  exact ⟨_, rfl⟩
 have hq' : (w.setCell p (.slice none 0 0)).cell? q = some (.int .i64 y) := by rw [World.cell?_setCell_other _ _ _ _ (fun h => hpq (congrArg Addr.block h))]; exact hq
 have hp' : (w.setCell q (.int .i64 c)).cell? p = some x := by rw [World.cell?_setCell_other _ _ _ _ (fun h => hpq (congrArg Addr.block h).symm)]; exact hp
 simp only [Array.replicate_succ, Array.replicate_zero, List.push_toArray, List.append_toArray, List.nil_append, List.cons_append, List.setIfInBounds_toArray, List.set_cons_succ, List.set_cons_zero];go_region
 exact ⟨rfl, rfl, rfl⟩
theorem get_idle (p q : Addr) (w : World) :
  CallsD Tryz.prog 40 #[.pointer (some p), .pointer (some q)] .returning w fun e u' w' => e = .returned (.tuple #[]) ∧ u' = .returning ∧ w' = w := by
 refine callsD_of_wpS Tryz.func40 rfl fun c₀ cs hu => ?_
 apply wpS_seq
 apply wpS_region
 simp [wpOpsS, go_sem, recoverD, hu, Tryz.ntmps40, Exit.thenS]
 apply wpS_seq
 apply wpS_region
 simp [wpOpsS, go_sem, Exit.thenS]
 refine wpS_cond (t := false) (by simp [Act.eval, Array.replicate]) ?_;simp only [Bool.false_eq_true, if_false];refine wpS_of_wp (wp_skip ?_);cases c₀
 simp_all [bodyPostS, results, Tryz.results40]
theorem results_get (tmps : Array Value) (p q : Addr) (a : Value) (b : Int) (w : World) (h6 : tmps[6]?.getD undef = .pointer (some p)) (h7 : tmps[7]?.getD undef = .pointer (some q))
  (hp : w.cell? p = some a) (hq : w.cell? q = some (.int .i64 b)) : (results Tryz.f20 tmps).run Tryz.prog w = .ok (.tuple #[a, .int .i64 b]) w := by
 simp [results, Tryz.results20, go_sem, h6, h7, hp, hq]
structure GetThrown (w : World) (g : Nat) (v : Value) (xs : List Int) (t : ByteArray) (e : Exit) (a : Act) (u : World) : Prop where
 out : e = .panic [{ v := .iface 24 (.int .i64 4), recovered := false }] ∧ a.defers = [{ target := .fn (.func 40) #[.pointer (some ⟨w.heap.size, 0, none⟩), .pointer (some ⟨w.heap.size + 1, 0, none⟩)], args := #[] }] ∧
  a.tmps[6]?.getD undef = .pointer (some ⟨w.heap.size, 0, none⟩) ∧ a.tmps[7]?.getD undef = .pointer (some ⟨w.heap.size + 1, 0, none⟩) ∧ GetW w g u v xs t
theorem GetThrown.off {w : World} {g : Nat} {v : Value} {xs : List Int} {t : ByteArray} {e : Exit} {a : Act} {u : World} {d : Tmp} {z : Value} (h : GetThrown w g v xs t e (a.put (some d) z) u) (h6 : d ≠ 6) (h7 : d ≠ 7) : GetThrown w g v xs t e a u := by
 obtain ⟨h1, h2, h3, h4, h5⟩ := h.out;refine ⟨h1, h2, ?_, ?_, h5⟩
 · rw [← h3]; simp [Act.put, h6]
 rw [← h4]; simp [Act.put, h7]
theorem throws_ {P : Program} {ops : Array Oper} {Q : Exit → Act → World → Prop} {oi : Oper} {N : Option Tmp} {a : Act} {w : World} {K : Act → World → Prop} {f : FuncId} {fn : Func} {ars : Array Operand} {ts : Array TypeId} (hf : P.funcs[f]? = some fn) (hname : (fn.name == "runtime.NumGoroutine") = false) (hb : fn.body.isSome = true) (args : Array Value)
  (hw : Region.wanted oi (yielded ops a.tmps) = true) (hop : oi.op = .call { callee := .value (.func f), args := ars, argTypes := ts }) (hargs : ars.map a.eval = args)
  (h : Calls P f args w fun e w' => ∃ ps, e = .panicked ps ∧ Q (.panic ps) a w') : if Region.wanted oi (yielded ops a.tmps) = true then Oper.wp P oi a w K Q else K (a.put N undef) w := by
 rw [if_pos hw];have he := enters_ hf hname hb args w
 have hrun : (execOp a.eval oi).run P w = .ok (.enter f args) w := by
  unfold execOp;simp [hop, resolve, Deferred.ofValue, invoke, Act.eval, hargs, he]
 unfold Oper.wp;rw [hrun, Oper.upon_enter];refine h.mono fun e w'' hh => ?_
 obtain ⟨ps, rfl, hk⟩ := hh;exact hk
theorem less_left {n i : Nat} (h : i < n) : n - (intOf (.int .i64 ((i : Int) + 1))).toNat < n - (intOf (.int .i64 (i : Int))).toNat := by
 have e : (intOf (.int .i64 ((i : Int) + 1))).toNat = i + 1 := by show ((i : Int) + 1).toNat = i + 1; omega
 have f : (intOf (.int .i64 (i : Int))).toNat = i := by show ((i : Int)).toNat = i; omega
 rw [e, f]; omega
theorem intInfo : (Tryz.prog.info? 3).map (fun i => (i.zero, i.size, i.bytes)) = some (some (.int .i64 0), 1, 8) := by kernel_rfl
set_option linter.unusedSimpArgs false in
theorem get_walk (A0 : Option Addr) (c0 : Nat) (l : List Int) (s : ByteArray) (p : Int) (w : World) (hr0 : Kd.C (Kd.int .i64) w A0 l.length l) (hc0 : l.length ≤ c0) (hl : l.length < 17592186044416)
    (hp : 0 ≤ p) (hps : p ≤ (s.size : Int)) (hsz : areSizes l = true) (r : List Int × Int) (hr : getN s p l = r) :
    Calls Tryz.prog 20 #[.string s, .int .i64 p, .slice A0 l.length c0] w fun e w' => ∃ v0_ : Value, e = .returned (.tuple #[v0_, .int .i64 r.2]) ∧ Kd.R (Kd.int .i64) 3 w' w.heap.size (fun _ => True) v0_ r.1 ∧ Below w.heap.size w w' := by
  have hmf : ∀ (fn : Fn) (first cap : Array Value) (w : World), (Instr.makeFunc fn first cap).run Tryz.prog w = .ok (.func fn first cap) w := fun _ _ _ _ => rfl
  have HR := hI hr;have HL := hI hl;have HSZ := hI hsz;have b1 : decide (p < 0) = false := decide_eq_false (by omega);have b2 : decide ((s.size : Int) < p) = false := decide_eq_false (by omega);have b3 : (0 ≤ p) = True := eq_true hp;have b4 : (p ≤ (s.size : Int)) = True := eq_true hps;have HR0 := hI hr0;have HC0 := hI hc0;clear hr hl hsz hp hps hr0 hc0;go_enter_defers Tryz.func20, Tryz.ntmps20
  go_wp2_with fail
  refine (bin_right.calls (l.length + 1) A0 c0 l true _ (Kd.C_alloc (Kd.C_alloc HR0.out _) _) HC0.out (by rw [bin_right.f_eq l (by have := HL.out; omega), HSZ.out])).mono ?_;rintro e w1 ⟨rfl, hd⟩;go_wp2_with fail
  have G0 : GetW w w1.heap.size (w1.alloc (.cells #[.string (s.extract p.toNat s.size)] 71)) (.slice none 0 0) [] (s.extract p.toNat s.size) := by
    have hb := hd.below;have hsz := hb.size;simp at hsz
    have e1 : w1.cell? ⟨w.heap.size, 0, none⟩ = some (.slice none 0 0) := by rw [hb.cell (by simp; omega)]; simp [go_sem]
    have e2 : w1.cell? ⟨w.heap.size + 1, 0, none⟩ = some (.int .i64 0) := by rw [hb.cell (by simp)]; simp [go_sem]
    have f1 : w1.frozen? ⟨w.heap.size, 0, none⟩ = false := by rw [hb.frozen (by simp; omega)]; simp [go_sem]
    have f2 : w1.frozen? ⟨w.heap.size + 1, 0, none⟩ = false := by rw [hb.frozen (by simp)]; simp [go_sem]
    have hB : Below w.heap.size w w1 := (((Below.refl _ _).alloc (Nat.le_refl _) _).alloc (by simp) _).trans (hb.mono (by simp; omega));have hB1 : Below w1.heap.size w1 (w1.alloc (.cells #[.string (s.extract p.toNat s.size)] 71)) := (Below.refl _ _).alloc (Nat.le_refl _) _;refine ⟨by rw [hB1.cell (by simp; omega)]; exact e1, by rw [hB1.frozen (by simp; omega)]; exact f1, by rw [hB1.cell (by simp; omega)]; exact e2, by rw [hB1.frozen (by simp; omega)]; exact f2, by simp [go_sem], by simp [go_sem], by omega, by simp, hB.alloc hB.size _, Kd.R_nil _ _ _ _ _⟩
  have HG := hI G0;have HL1 := hI (show w.heap.size + 2 ≤ w1.heap.size by have := G0.hg; exact this);clear hd G0;go_loopw [32] (fun v32 wr => ∃ (i : Nat) (xs : List Int) (v : Value) (t : ByteArray), i ≤ l.length ∧ v32 = .int .i64 (i : Int) ∧ Aside0 (xs.length ≤ i) ∧ Aside0 (GetW w w1.heap.size wr v xs t) ∧ Aside0 ((takes t (l.drop i)).map (xs ++ ·) = takes (s.extract p.toNat s.size) l)) (fun v32 _ => l.length - (intOf v32).toNat)
  case atStart => exact ⟨0, [], _, _, by omega, rfl, ⟨Nat.le_refl _⟩, ⟨HG.out⟩, ⟨by simp⟩⟩
  case round =>
    obtain ⟨i, xs, v, t, hi, rfl, HXL, HW, HT⟩ := hrel;by_cases hlt : i < l.length
    · have q1 : (i : Int) < (l.length : Int) := by omega
      have q0 : 0 ≤ (i : Int) := by omega
      have d1 : decide ((i : Int) < (l.length : Int)) = true := decide_eq_true q1;obtain ⟨x, hx⟩ : ∃ x, x = rd l (i : Int) := ⟨_, rfl⟩;have hxl : l.drop i = x :: l.drop (i + 1) := by rw [List.drop_eq_getElem_cons hlt, hx]; unfold rd; simp [List.getD_eq_getElem?_getD, List.getElem?_eq_getElem hlt]
      have hxs : isSize x = true := by
        have := List.all_eq_true.1 HSZ.out x (by have : x ∈ l.drop i := by rw [hxl]; simp
                                                 exact List.mem_of_mem_drop this)
        exact this
      obtain ⟨ad, e101, hcell⟩ := Kd.at_int (Kd.C_below HR0.out HW.out.hB) (i : Int) q0 q1;cases e101
      rw [← hx, Int.toNat_natCast] at hcell;have HXX := hI hxl;have HXS := hI hxs;clear hx hxl hxs;replace q0 := eq_true q0;replace q1 := eq_true q1;go_wp2_with fail
      by_cases hn : x.natAbs ≤ t.size
      · have HN := hI hn
        clear hn;refine wp_region_noPanic ?_;have HWd := hI (HW.out.below (below_drew1 (Below.refl _ _)));refine bh_ 7 (fun u => u.cell? ⟨w.heap.size, 0, none⟩ = some v) [6] HWd.out.c1 (fun hHeld => ?_);generalize wr.drew = wd at HWd hHeld ⊢
        refine pS_ 1 37 ?_;refine pS_ 2 38 ?_;refine tS_ 0 36 hHeld ?_;refine oS_ 3 39 (fun K hK => ?_);refine goes_ Tryz.func42 (by kernel_rfl) rfl #[.pointer (some ⟨w1.heap.size, 0, none⟩), .int .i64 x] (by rfl) rfl rfl (by (try simp only [List.map_toArray, List.map_cons, List.map_nil]); first | done | rfl) ?_;refine (take_ok w1.heap.size t x _ HWd.out.c3 HWd.out.z3 HXS.out HN.out).mono ?_;rintro e u1 ⟨rfl, hc, hz, hb, hk⟩;have G1 := hI (HWd.out.took hc hz hb hk);clear hc hz hb hk HWd HW;refine ⟨_, rfl, ?_⟩;refine hK.out _ _ G1.out.c1 (fun hHeld => ?_);clear hK K;refine nS_ ?_;refine oS_ 4 40 (fun K hK => ?_);refine vS_ ?_;refine hK.out _ _ (G1.out.below ((Below.refl _ _).alloc (Nat.le_refl _) _)).c1 (fun hHeld => ?_);clear hK K;refine nS_ ?_;refine oS_ 5 41 (fun K hK => ?_);refine Kd.R_append_step (Kd.int .i64) (w0 := w) w.heap.size (by rfl) (.tmp 36) (.tmp 40) 35 3 (.int .i64 0) 8 rfl Tryz.underlying35 intInfo rfl (by decide) (by omega) v xs (takeN t x) [.int .i64 (takeN t x)] (fun k => w1.heap.size < k) (fun _ => False) rfl rfl ?aP (fun _ hk => hk.elim) ?aF ?aO ?aB ?aS ?aL ?_
        (case aP => rfl)
        (case aB => exact G1.out.hB)
        (case aF => exact (fun k hk => Nat.lt_of_lt_of_le G1.out.hs hk))
        (case aO => exact G1.out.r)
        (case aS => exact G1.out.hB.size)
        (case aL => have := HXL.out; have := HL.out; omega)
        intro v1 u2 ho hb hg hat;obtain ⟨A1, k1, rfl⟩ := Kd.R_slice ho;have G2 := hI (G1.out.grew ho hb hg);clear ho hb hg hat;refine hK.out _ _ G2.out.1 (fun hHeld => ?_);clear hK K;refine nS_ ?_;refine lN_ 6 (fun K hK => ?_);have zz := G2.out.2.1;refine skip_ (w1 := ?_) (by rfl) rfl ?_ ?_;rotate_left
        · go_simp
          rfl
        refine hK.out _ _ ?_;clear hK K;refine dS_ ?_;refine NoPanic.normal ?_
        have HXE := hI (show (takes (t.extract x.natAbs t.size) (l.drop (i + 1))).map ((xs ++ [takeN t x]) ++ ·) = takes (s.extract p.toNat s.size) l by
          rw [← HT.out, HXX.out];simp only [takes];rw [if_pos HN.out, Option.map_map];congr 1
          funext y
          simp)
        have hwi : wrap64 ((i : Int) + 1) = (i : Int) + 1 := by have := HL.out; unfold wrap64; omega
        have G4 := G2.out.2.2;simp only [List.length_append, List.length_singleton] at G4;have HG4 := hI G4;clear zz hHeld G4;go_wp2;go_roundw
        case rel => exact ⟨i + 1, xs ++ [takeN t x], _, _, by omega, by rw [hwi]; rfl, ⟨by have := HXL.out; simp; omega⟩, ⟨HG4.out⟩, ⟨HXE.out⟩⟩
        case measure => rw [hwi]; exact less_left hlt
      have HN := hI hn
      have hres : r = ([], 4) := by
        have h1 := HT.out;rw [HXX.out] at h1;simp only [takes] at h1;rw [if_neg hn] at h1;rw [← HR.out];unfold getN
        rw [if_neg (by rintro (h | h); · have := of_eq_true b3; omega
                       · rw [HSZ.out] at h; exact absurd h (by decide)), if_neg (by have := of_eq_true b4; omega), ← h1]
        rfl
      have HRES := hI hres;have HWd := hI (HW.out.below (below_drew1 (Below.refl _ _)));clear hres hn HT;refine Code.wp_mono (Q := GetThrown w w1.heap.size v xs t) (fun e a u h => ?_) ?_
      · obtain ⟨rfl, hd, h6, h7, hG⟩ := h.out
        obtain ⟨tmps, defers⟩ := a;simp only at hd h6 h7;subst hd;dsimp (config := { zetaDelta := true }) only [Exit.inBlock, Exit.then]
        refine leaves_cons (f := 40) (args := #[.pointer (some ⟨w.heap.size, 0, none⟩), .pointer (some ⟨w.heap.size + 1, 0, none⟩)]) (by simp) (by simp [go_sem]) ?_;refine (get_panicking ⟨w.heap.size, 0, none⟩ ⟨w.heap.size + 1, 0, none⟩ (by simp) _ _ _ [] _ hG.c1 hG.z1 hG.c2 hG.z2).mono ?_;rintro e u' w'' ⟨rfl, rfl, nd, rfl⟩;rw [HRES.out];have G3 := hG.failed nd;exact ⟨_, results_get _ _ _ _ _ _ h6 h7 G3.1 G3.2.1, ⟨_, rfl, Kd.R_nil _ _ _ _ _, G3.2.2⟩⟩
      refine bh_ 7 (fun u => u.cell? ⟨w.heap.size, 0, none⟩ = some v) [6] HWd.out.c1 (fun hHeld => ?_);generalize wr.drew = wd at HWd hHeld ⊢
      refine pure_ (i := 1) (N := some 37) (v := ?_) (a' := ?_) #[false, true, false, false, false, false, false] rfl rfl (by kernel_rfl) (fun _ _ _ h => h.off (by decide) (by decide)) (Or.inl ⟨by rfl, ?_⟩) ?_ ?_;rotate_left
      · intro w'
        go_simp
        with_reducible rfl
      rotate_left
      · simp only [Act.put, List.setIfInBounds_toArray, List.set_cons_zero, List.set_cons_succ, i64_w, i32_w]
        rfl
      refine pure_ (i := 2) (N := some 38) (v := ?_) (a' := ?_) #[false, true, true, false, false, false, false] rfl rfl (by kernel_rfl) (fun _ _ _ h => h.off (by decide) (by decide)) (Or.inl ⟨by rfl, ?_⟩) ?_ ?_;rotate_left
      · intro w'
        go_simp
        with_reducible rfl
      rotate_left
      · simp only [Act.put, List.setIfInBounds_toArray, List.set_cons_zero, List.set_cons_succ, i64_w, i32_w]
        rfl
      refine take_ (i := 0) (N := some 36) (v := ?_) (a' := ?_) #[true, true, true, false, false, false, false] rfl rfl (by kernel_rfl) (fun _ _ _ h => h.off (by decide) (by decide)) (Or.inl ⟨by rfl, ?_⟩) hHeld ?_ ?_;rotate_left
      · rintro w' s0
        go_simp
        with_reducible rfl
      rotate_left
      · simp only [Act.put, List.setIfInBounds_toArray, List.set_cons_zero, List.set_cons_succ, i64_w, i32_w]
        rfl
      refine oS_ 3 39 (fun K hK => ?_);refine throws_ Tryz.func42 (by kernel_rfl) rfl #[.pointer (some ⟨w1.heap.size, 0, none⟩), .int .i64 x] (by rfl) rfl (by (try simp only [List.map_toArray, List.map_cons, List.map_nil]); first | done | rfl) ?_;refine (take_more _ t x _ HWd.out.c3 HXS.out (by have := HN.out; omega)).mono ?_;rintro e u1 ⟨rfl, rfl⟩;exact ⟨_, rfl, ⟨rfl, rfl, rfl, rfl, HWd.out⟩⟩
    have hie : i = l.length := by omega
    have d1 : decide ((i : Int) < (l.length : Int)) = false := decide_eq_false (by omega)
    have hres : r = (xs, 0) := by
      have h1 := HT.out;rw [hie, List.drop_length] at h1;simp only [takes, Option.map_some, List.append_nil] at h1;rw [← HR.out];unfold getN
      rw [if_neg (by rintro (h | h); · have := of_eq_true b3; omega
                     · rw [HSZ.out] at h; exact absurd h (by decide)), if_neg (by have := of_eq_true b4; omega), ← h1]
    have HRES := hI hres;obtain ⟨A1, k1, rfl⟩ := Kd.R_slice HW.out.r;have c1 := HW.out.c1;have z1 := HW.out.z1;have c2 := HW.out.c2;have z2 := HW.out.z2;clear hie hres HT;go_wp2;refine leaves_cons (f := 40) (args := #[.pointer (some ⟨w.heap.size, 0, none⟩), .pointer (some ⟨w.heap.size + 1, 0, none⟩)]) (by simp) (by simp [go_sem]) ?_;refine (get_idle ⟨w.heap.size, 0, none⟩ ⟨w.heap.size + 1, 0, none⟩ _).mono ?_;rintro e u' w'' ⟨rfl, rfl, rfl⟩;rw [HRES.out];have G3 := HW.out.stored;exact ⟨_, results_get _ _ _ _ _ _ rfl rfl G3.1 G3.2.1, ⟨_, rfl, G3.2.2.1, G3.2.2.2⟩⟩
theorem get_starts {w W : World} (hb : Below (w.heap.size + 2) ((w.alloc (Obj.cells #[Value.slice none 0 0] 35)).alloc (Obj.cells #[Value.int IntKind.i64 0] 24)) W) (c : Int) :
  ((W.setCell ⟨w.heap.size, 0, none⟩ (.slice none 0 0)).setCell ⟨w.heap.size + 1, 0, none⟩ (.int .i64 c)).cell? ⟨w.heap.size, 0, none⟩ = some (.slice none 0 0) ∧ ((W.setCell ⟨w.heap.size, 0, none⟩ (.slice none 0 0)).setCell ⟨w.heap.size + 1, 0, none⟩ (.int .i64 c)).cell? ⟨w.heap.size + 1, 0, none⟩ = some (.int .i64 c) ∧
   Below w.heap.size w ((W.setCell ⟨w.heap.size, 0, none⟩ (.slice none 0 0)).setCell ⟨w.heap.size + 1, 0, none⟩ (.int .i64 c)) ∧
   W.cell? ⟨w.heap.size, 0, none⟩ = some (.slice none 0 0) ∧ W.frozen? ⟨w.heap.size, 0, none⟩ = false ∧ W.cell? ⟨w.heap.size + 1, 0, none⟩ = some (.int .i64 0) ∧ W.frozen? ⟨w.heap.size + 1, 0, none⟩ = false := by
 have e1 : W.cell? ⟨w.heap.size, 0, none⟩ = some (.slice none 0 0) := by rw [hb.cell (by simp)]; simp [go_sem]
 have e2 : W.cell? ⟨w.heap.size + 1, 0, none⟩ = some (.int .i64 0) := by rw [hb.cell (by simp)]; simp [go_sem]
 have f1 : W.frozen? ⟨w.heap.size, 0, none⟩ = false := by rw [hb.frozen (by simp)]; simp [go_sem]
 have f2 : W.frozen? ⟨w.heap.size + 1, 0, none⟩ = false := by rw [hb.frozen (by simp)]; simp [go_sem]
 have hB : Below w.heap.size w W := (((Below.refl _ _).alloc (Nat.le_refl _) _).alloc (by simp) _).trans (hb.mono (by omega));have n1 : (⟨w.heap.size, 0, none⟩ : Addr) ≠ ⟨w.heap.size + 1, 0, none⟩ := by intro e; have := congrArg Addr.block e; simp at this
 have c2 : (W.setCell ⟨w.heap.size, 0, none⟩ (.slice none 0 0)).cell? ⟨w.heap.size + 1, 0, none⟩ = some (.int .i64 0) := by rw [World.cell?_setCell_other _ _ _ _ n1]; exact e2
 refine ⟨?_, World.cell?_setCell_same _ _ _ c2, (hB.setCell (Nat.le_refl _) _).setCell (by simp) _, e1, f1, e2, f2⟩;rw [World.cell?_setCell_other _ _ _ _ (Ne.symm n1)]; exact World.cell?_setCell_same _ _ _ e1
theorem get_low (A0 : Option Addr) (c0 : Nat) (l : List Int) (s : ByteArray) (p : Int) (w : World) (hp : p < 0) :
  Calls Tryz.prog 20 #[.string s, .int .i64 p, .slice A0 l.length c0] w fun e w' => ∃ v0_ : Value, e = .returned (.tuple #[v0_, .int .i64 1]) ∧ Kd.R (Kd.int .i64) 3 w' w.heap.size (fun _ => True) v0_ [] ∧ Below w.heap.size w w' := by
 have hmf : ∀ (fn : Fn) (first cap : Array Value) (w : World), (Instr.makeFunc fn first cap).run Tryz.prog w = .ok (.func fn first cap) w := fun _ _ _ _ => rfl
 have b1 : decide (p < 0) = true := decide_eq_true hp;clear hp;go_enter_defers Tryz.func20, Tryz.ntmps20
 go_wp2;refine leaves_cons (f := 40) (args := #[.pointer (some ⟨w.heap.size, 0, none⟩), .pointer (some ⟨w.heap.size + 1, 0, none⟩)]) (by simp) (by simp [go_sem]) ?_;refine (get_idle ⟨w.heap.size, 0, none⟩ ⟨w.heap.size + 1, 0, none⟩ _).mono ?_;rintro e u' w'' ⟨rfl, rfl, rfl⟩;exact ⟨_, results_get _ _ _ _ _ _ rfl rfl (by simp [go_sem]) (by simp [go_sem]), ⟨_, rfl, Kd.R_nil _ _ _ _ _, ((Below.refl _ _).alloc (Nat.le_refl _) _).alloc (by simp) _⟩⟩
theorem get_size (A0 : Option Addr) (c0 : Nat) (l : List Int) (s : ByteArray) (p : Int) (w : World) (hr0 : Kd.C (Kd.int .i64) w A0 l.length l) (hc0 : l.length ≤ c0) (hl : l.length < 17592186044416) (hp : 0 ≤ p) (hsz : areSizes l = false) :
  Calls Tryz.prog 20 #[.string s, .int .i64 p, .slice A0 l.length c0] w fun e w' => ∃ v0_ : Value, e = .returned (.tuple #[v0_, .int .i64 1]) ∧ Kd.R (Kd.int .i64) 3 w' w.heap.size (fun _ => True) v0_ [] ∧ Below w.heap.size w w' := by
 have hmf : ∀ (fn : Fn) (first cap : Array Value) (w : World), (Instr.makeFunc fn first cap).run Tryz.prog w = .ok (.func fn first cap) w := fun _ _ _ _ => rfl
 have b1 : decide (p < 0) = false := decide_eq_false (by omega);have HSZ := hI hsz;have HL := hI hl;have HR0 := hI hr0;have HC0 := hI hc0;clear hp hsz hl hr0 hc0;go_enter_defers Tryz.func20, Tryz.ntmps20
 go_wp2_with fail
 refine (bin_right.calls (l.length + 1) A0 c0 l false _ (Kd.C_alloc (Kd.C_alloc HR0.out _) _) HC0.out (by rw [bin_right.f_eq l (by have := HL.out; omega), HSZ.out])).mono ?_;rintro e w1 ⟨rfl, hd⟩;obtain ⟨g1, g2, g3, e1, f1, e2, f2⟩ := get_starts (w := w) (W := w1) (by simpa using hd.below) 1;clear hd;go_wp2;refine leaves_cons (f := 40) (args := #[.pointer (some ⟨w.heap.size, 0, none⟩), .pointer (some ⟨w.heap.size + 1, 0, none⟩)]) (by simp) (by simp [go_sem]) ?_;refine (get_idle ⟨w.heap.size, 0, none⟩ ⟨w.heap.size + 1, 0, none⟩ _).mono ?_;rintro e u' w'' ⟨rfl, rfl, rfl⟩;exact ⟨_, results_get _ _ _ _ _ _ rfl rfl g1 g2, ⟨_, rfl, Kd.R_nil _ _ _ _ _, g3⟩⟩
theorem get_far (A0 : Option Addr) (c0 : Nat) (l : List Int) (s : ByteArray) (p : Int) (w : World) (hr0 : Kd.C (Kd.int .i64) w A0 l.length l) (hc0 : l.length ≤ c0) (hl : l.length < 17592186044416) (hp : 0 ≤ p) (hps : p > (s.size : Int)) (hsz : areSizes l = true) :
  Calls Tryz.prog 20 #[.string s, .int .i64 p, .slice A0 l.length c0] w fun e w' => ∃ v0_ : Value, e = .returned (.tuple #[v0_, .int .i64 4]) ∧ Kd.R (Kd.int .i64) 3 w' w.heap.size (fun _ => True) v0_ [] ∧ Below w.heap.size w w' := by
 have hmf : ∀ (fn : Fn) (first cap : Array Value) (w : World), (Instr.makeFunc fn first cap).run Tryz.prog w = .ok (.func fn first cap) w := fun _ _ _ _ => rfl
 have b1 : decide (p < 0) = false := decide_eq_false (by omega);have b2 : decide ((s.size : Int) < p) = true := decide_eq_true (by omega);have HSZ := hI hsz;have HL := hI hl;have HR0 := hI hr0;have HC0 := hI hc0;clear hp hsz hl hr0 hc0 hps;go_enter_defers Tryz.func20, Tryz.ntmps20
 go_wp2_with fail
 refine (bin_right.calls (l.length + 1) A0 c0 l true _ (Kd.C_alloc (Kd.C_alloc HR0.out _) _) HC0.out (by rw [bin_right.f_eq l (by have := HL.out; omega), HSZ.out])).mono ?_;rintro e w1 ⟨rfl, hd⟩;obtain ⟨g1, g2, g3, e1, f1, e2, f2⟩ := get_starts (w := w) (W := w1) (by simpa using hd.below) 4;clear hd;go_wp2;refine leaves_cons (f := 40) (args := #[.pointer (some ⟨w.heap.size, 0, none⟩), .pointer (some ⟨w.heap.size + 1, 0, none⟩)]) (by simp) (by simp [go_sem]) ?_;refine (get_idle ⟨w.heap.size, 0, none⟩ ⟨w.heap.size + 1, 0, none⟩ _).mono ?_;rintro e u' w'' ⟨rfl, rfl, rfl⟩;exact ⟨_, results_get _ _ _ _ _ _ rfl rfl g1 g2, ⟨_, rfl, Kd.R_nil _ _ _ _ _, g3⟩⟩
def bin_Get.f (a0 : ByteArray) (a1 : Int) (l2 : List Int) : Option (List Int × Int) := if l2.length < 17592186044416 then some (getN a0 a1 l2) else none
theorem bin_Get.calls (a0 : ByteArray) (a1 : Int) (A2 : Option Addr) (c2 : Nat) (l2 : List Int) (r1 : List Int) (r2 : Int) (w : World) (hr2 : Kd.C (Kd.int .i64) w A2 l2.length l2) (hc2 : l2.length ≤ c2) (h : bin_Get.f a0 a1 l2 = some (r1, r2)) :
    Calls Tryz.prog 20 #[.string a0, .int .i64 a1, .slice A2 l2.length c2] w fun e w' => ∃ v0_ : Value, e = .returned (.tuple #[v0_, .int .i64 r2]) ∧ Kd.R (Kd.int .i64) 3 w' w.heap.size (fun _ => True) v0_ r1 ∧ Below w.heap.size w w' := by
  unfold bin_Get.f at h;by_cases hl : l2.length < 17592186044416
  case neg => rw [if_neg hl] at h; exact absurd h (by simp)
  rw [if_pos hl] at h;have hg := Option.some.inj h;by_cases hp : a1 < 0
  · unfold getN at hg
    rw [if_pos (.inl hp)] at hg;obtain ⟨rfl, rfl⟩ := Prod.mk.inj hg;exact get_low A2 c2 l2 a0 a1 w hp
  cases hs : areSizes l2 with
  | false =>
    unfold getN at hg;rw [if_pos (.inr hs)] at hg;obtain ⟨rfl, rfl⟩ := Prod.mk.inj hg;exact get_size A2 c2 l2 a0 a1 w hr2 hc2 hl (by omega) hs
  | true =>
    by_cases hps : a1 > (a0.size : Int)
    · unfold getN at hg
      rw [if_neg (by rintro (h | h); · exact hp h
                     · rw [hs] at h; exact absurd h (by decide)), if_pos hps] at hg
      obtain ⟨rfl, rfl⟩ := Prod.mk.inj hg;exact get_far A2 c2 l2 a0 a1 w hr2 hc2 hl (by omega) hps hs
    exact get_walk A2 c2 l2 a0 a1 w hr2 hc2 hl (by omega) (by omega) hs (r1, r2) hg
end Go.Proofs.YtejdflndgnpkcaaGreat.P
end
section
namespace Go.Proofs.YtejdflndgnpkcaaGreat.P
open Go.RowKit PW PL PM
attribute [local go_sem] max2_int min2_int max_two min_two max_three min_three max_four min_four
def bits_Mul64.f (a0 : Int) (a1 : Int) : Option (Int × Int) := some (IntKind.u64.wrap ((IntKind.u64.wrap ((IntKind.u64.wrap ((a0 / 4294967296) * (a1 / 4294967296))) + ((IntKind.u64.wrap ((IntKind.u64.wrap ((a0 / 4294967296) * (Go.bits .and .u64 a1 4294967295))) + ((IntKind.u64.wrap ((Go.bits .and .u64 a0 4294967295) * (Go.bits .and .u64 a1 4294967295))) / 4294967296))) / 4294967296))) + ((IntKind.u64.wrap ((Go.bits .and .u64 (IntKind.u64.wrap ((IntKind.u64.wrap ((a0 / 4294967296) * (Go.bits .and .u64 a1 4294967295))) + ((IntKind.u64.wrap ((Go.bits .and .u64 a0 4294967295) * (Go.bits .and .u64 a1 4294967295))) / 4294967296))) 4294967295) + (IntKind.u64.wrap ((Go.bits .and .u64 a0 4294967295) * (a1 / 4294967296))))) / 4294967296)), IntKind.u64.wrap (a0 * a1))
theorem bits_Mul64.calls (a0 : Int) (a1 : Int) (r1 : Int) (r2 : Int) (w : World) (h : bits_Mul64.f a0 a1 = some (r1, r2)) :
  Calls Tryz.prog 73 #[.int .u64 a0, .int .u64 a1] w fun e w' => e = .returned (.tuple #[.int .u64 r1, .int .u64 r2]) ∧ Drawn0 w w' := by
 have H : (some (IntKind.u64.wrap ((IntKind.u64.wrap ((IntKind.u64.wrap ((a0 / 4294967296) * (a1 / 4294967296))) + ((IntKind.u64.wrap ((IntKind.u64.wrap ((a0 / 4294967296) * (Go.bits .and .u64 a1 4294967295))) + ((IntKind.u64.wrap ((Go.bits .and .u64 a0 4294967295) * (Go.bits .and .u64 a1 4294967295))) / 4294967296))) / 4294967296))) + ((IntKind.u64.wrap ((Go.bits .and .u64 (IntKind.u64.wrap ((IntKind.u64.wrap ((a0 / 4294967296) * (Go.bits .and .u64 a1 4294967295))) + ((IntKind.u64.wrap ((Go.bits .and .u64 a0 4294967295) * (Go.bits .and .u64 a1 4294967295))) / 4294967296))) 4294967295) + (IntKind.u64.wrap ((Go.bits .and .u64 a0 4294967295) * (a1 / 4294967296))))) / 4294967296)), IntKind.u64.wrap (a0 * a1))) = some (r1, r2) := h;clear h;obtain ⟨rfl, rfl⟩ := qP H;go_enter Tryz.func73, Tryz.ntmps73;go_wp2;go_ret2;exact ⟨by first | rfl | (simp; done) | (simp [*]; done), by repeat (first | exact Drawn0.refl _ | apply Drawn0.step)⟩
def bits_Mul.f (a0 : Int) (a1 : Int) : Option (Int × Int) := (bits_Mul64.f a0 a1).bind fun bt128 => (some (bt128.1, bt128.2))
theorem bits_Mul.calls (a0 : Int) (a1 : Int) (r1 : Int) (r2 : Int) (w : World) (h : bits_Mul.f a0 a1 = some (r1, r2)) :
  Calls Tryz.prog 43 #[.int .u64 a0, .int .u64 a1] w fun e w' => e = .returned (.tuple #[.int .u64 r1, .int .u64 r2]) ∧ Drawn0 w w' := by
 have H : ((bits_Mul64.f a0 a1).bind fun bt128 => (some (bt128.1, bt128.2))) = some (r1, r2) := h;clear h;replace H := qS H;obtain ⟨⟨t128, t129⟩, A3, H⟩ := H;try dsimp only at H
 obtain ⟨rfl, rfl⟩ := qP H;go_enter Tryz.func43, Tryz.ntmps43;go_wp2_with (first | ((with_reducible refine gate_callee (f := 73) rfl ?_); refine gD_ 25 Tryz.func73 (bits_Mul64.calls a0 a1 t128 t129 _ A3.out) ?_; intro nd))
 go_ret2;exact ⟨by first | rfl | (simp; done) | (simp [*]; done), by repeat (first | exact Drawn0.refl _ | apply Drawn0.step)⟩
end Go.Proofs.YtejdflndgnpkcaaGreat.P
end
