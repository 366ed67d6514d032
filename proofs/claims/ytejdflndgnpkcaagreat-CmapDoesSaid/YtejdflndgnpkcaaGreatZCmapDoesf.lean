/- Words, contracts and plain facts of the proof. Each says its own condition. -/
import Derived.Test.YtejdflndgnpkcaaGreatZCmapDoese
set_option linter.unusedVariables false
set_option maxRecDepth 100000
set_option linter.unusedSimpArgs false
set_option maxHeartbeats 16000000
section
namespace Go.Proofs.YtejdflndgnpkcaaGreat.P
open Go.RowKit PW PL PM
attribute [local go_sem] max2_int min2_int max_two min_two max_three min_three max_four min_four
mutual
def r10_Short.l0 : Nat → List (S61) → Int → Option (Bool)
 | 0, _, _ => none
 | k + 1, x0, x3 => if x3 < (x0.length : Int) then (r10_Short.j1 k x0 x3 (decide ((x0.length : Int) ≤ 60))) else (r10_Short.j1 k x0 x3 false)
def r10_Short.j1 : Nat → List (S61) → Int → Bool → Option (Bool)
 | 0, _, _, _ => none
 | k + 1, x0, x3, x13 => if x13 = true then (if 0 ≤ x3 then (if x3 < (x0.length : Int) then (if (wrap64 (((rd_T61 x0 x3).f1) - ((rd_T61 x0 x3).f0))) > 1000 then (if (wrap64 (((rd_T61 x0 x3).f1) - ((rd_T61 x0 x3).f0))) < 70000 then (some false) else (r10_Short.l0 k x0 (wrap64 (x3 + 1)))) else (r10_Short.l0 k x0 (wrap64 (x3 + 1)))) else (none)) else (none)) else (some (decide ((x0.length : Int) ≤ 60)))
end
def r10_Short.f (k : Nat) (l0 : List (S61)) : Option (Bool) := r10_Short.l0 k l0 0
theorem r10_Short.calls (k : Nat) (A0 : Option Addr) (c0 : Nat) (l0 : List (S61)) (r : Bool) (w : World) (hr0 : Kd.C k61 w A0 l0.length l0) (hc0 : l0.length ≤ c0) (h : r10_Short.f k l0 = some r) :
  Calls Tryz.prog 19 #[.slice A0 l0.length c0] w fun e w' => e = .returned (.bool r) ∧ Drawn0 w w' := by
 have HR0 := aK hr0;have HC0 := aK hc0;clear hr0 hc0;have H : (r10_Short.l0 k l0 0) = some r := h;clear h;have H' := aK H;clear H;go_enter Tryz.func19, Tryz.ntmps19;go_wp2;go_loopg [3] k (fun kq v3 w' => ∃ (x3_1 : Int), v3 = .int .i64 x3_1 ∧ Aside0 (r10_Short.l0 kq l0 x3_1 = some r) ∧ Aside0 (kq ≤ k) ∧ Drawn0 w w')
 case atStart => exact ⟨(0), gA, H', ⟨Nat.le_refl _⟩, by repeat (first | exact Drawn0.refl _ | apply Drawn0.step)⟩
 case round =>
  clear H';obtain ⟨x3_1, rfl, HA, HK1, ⟨m1, rfl⟩⟩ := hrel;cases gk with
  | zero => exact absurd HA.out (by simp [r10_Short.l0])
  | succ k1 =>
   have H := HA.out;clear HA;simp only [r10_Short.l0] at H;have HC2 := aK H;clear H;go_upto_region 2 with (fail)
   go_cut [13] (fun v13 wc => ∃ (kq : Nat) (x13_1 : Bool), v13 = .bool x13_1 ∧ Aside0 (r10_Short.j1 kq l0 x3_1 x13_1 = some r) ∧ Aside0 (kq ≤ k1) ∧ Drawn0 w wc)
   case first =>
    have H := HC2.out;clear HC2;replace H := qL H;rcases H with ⟨c3b0, H⟩ | ⟨c3b0, H⟩
    ·
     (first | rw [c3b0] | (simp only [i64_w, i32_w]; rw [c3b0]) | skip)
     have H' := aK H;clear H;go_wp2;go_meet
     case rel => exact ⟨_, (decide ((l0.length : Int) ≤ 60)), gA, H', ⟨oK⟩, by repeat (first | exact Drawn0.refl _ | apply Drawn0.step)⟩
    (first | rw [c3b0] | (simp only [i64_w, i32_w]; rw [c3b0]) | skip)
    have H' := aK H;clear H;go_wp2;go_meet
    case rel => exact ⟨_, (false), gA, H', ⟨oK⟩, by repeat (first | exact Drawn0.refl _ | apply Drawn0.step)⟩
   case rest =>
    clear HC2;obtain ⟨kq, x13_1, rfl, HA, HJ1, ⟨mc1, rfl⟩⟩ := hcut;cases kq with
    | zero => exact absurd HA.out (by simp [r10_Short.j1])
    | succ kj1 =>
     have H := HA.out;clear HA;simp only [r10_Short.j1] at H;replace H := qB H;rcases H with ⟨rfl, H⟩ | ⟨rfl, H⟩
     ·
      replace H := nL H;obtain ⟨c5b0, H⟩ := H;replace H := nL H;obtain ⟨c6b0, H⟩ := H;replace H := qM H;rcases H with ⟨c7b0, H⟩ | ⟨c7b0, H⟩
      ·
       replace H := qL H;rcases H with ⟨c8b0, H⟩ | ⟨c8b0, H⟩
       ·
        obtain rfl := Option.some.inj H;obtain ⟨p122, q122, ad122, e122, hx122_0, hx122_1, hx122_2, hx122_3⟩ := aT (at_T61 HR0.out x3_1);cases e122
        obtain ⟨p123, q123, ad123, e123, hx123_0, hx123_1, hx123_2, hx123_3⟩ := aT (at_T61 HR0.out x3_1);obtain rfl : ad122 = ad123 := (by injection e123);go_wp2;repeat (go_quiet (fail); try go_wp2)
        go_ret;exact ⟨by first | rfl | (simp; done) | (simp [*]; done), by repeat (first | exact Drawn0.refl _ | apply Drawn0.step)⟩
       have H' := aK H;clear H;obtain ⟨p122, q122, ad122, e122, hx122_0, hx122_1, hx122_2, hx122_3⟩ := aT (at_T61 HR0.out x3_1);cases e122
       obtain ⟨p123, q123, ad123, e123, hx123_0, hx123_1, hx123_2, hx123_3⟩ := aT (at_T61 HR0.out x3_1);obtain rfl : ad122 = ad123 := (by injection e123);go_wp2;repeat (go_quiet (fail); try go_wp2)
       go_roundg kj1
       case measure => exact oK
       case rel => exact ⟨(wrap64 (x3_1 + 1)), gA, H', ⟨oK⟩, by repeat (first | exact Drawn0.refl _ | apply Drawn0.step)⟩
      have H' := aK H;clear H;obtain ⟨p122, q122, ad122, e122, hx122_0, hx122_1, hx122_2, hx122_3⟩ := aT (at_T61 HR0.out x3_1);cases e122
      obtain ⟨p123, q123, ad123, e123, hx123_0, hx123_1, hx123_2, hx123_3⟩ := aT (at_T61 HR0.out x3_1);obtain rfl : ad122 = ad123 := (by injection e123);go_wp2;repeat (go_quiet (fail); try go_wp2)
      go_roundg kj1
      case measure => exact oK
      case rel => exact ⟨(wrap64 (x3_1 + 1)), gA, H', ⟨oK⟩, by repeat (first | exact Drawn0.refl _ | apply Drawn0.step)⟩
     obtain rfl := Option.some.inj H;go_wp2;go_ret;exact ⟨by first | rfl | (simp; done) | (simp [*]; done), by repeat (first | exact Drawn0.refl _ | apply Drawn0.step)⟩
def r10_long.f (k : Nat) (a0 : ByteArray) (a1 : Int) : Option (Int) := if 0 ≤ a1 then (if a1 ≤ (wrap64 (a1 + 4)) then (if (wrap64 (a1 + 4)) ≤ (a0.size : Int) then ((r03_One.f k (a0.extract (a1 : Int).toNat ((wrap64 (a1 + 4)) : Int).toNat) 4).bind fun t288 => (some t288)) else (none)) else (none)) else (none)
theorem r10_long.calls (k : Nat) (a0 : ByteArray) (a1 : Int) (r : Int) (w : World) (h : r10_long.f k a0 a1 = some r) :
  Calls Tryz.prog 59 #[.string a0, .int .i64 a1] w fun e w' => e = .returned (.int .i64 r) ∧ Drawn0 w w' := by
 have H : (if 0 ≤ a1 then (if a1 ≤ (wrap64 (a1 + 4)) then (if (wrap64 (a1 + 4)) ≤ (a0.size : Int) then ((r03_One.f k (a0.extract (a1 : Int).toNat ((wrap64 (a1 + 4)) : Int).toNat) 4).bind fun t288 => (some t288)) else (none)) else (none)) else (none)) = some r := h;clear h;replace H := nD H;obtain ⟨c3, c3b0, c3b1, H⟩ := H;clear c3;replace H := nD H;obtain ⟨c4, c4b0, c4b1, H⟩ := H;replace H := nD H;obtain ⟨c5, c5b0, c5b1, H⟩ := H;replace H := qS H;obtain ⟨t288, A6, H⟩ := H;obtain rfl := Option.some.inj H;go_enter Tryz.func59, Tryz.ntmps59;go_wp2_with (first | ((with_reducible refine gate_callee (f := 26) rfl ?_); refine gD_ 10 Tryz.func26 (r03_One.calls k (a0.extract (a1 : Int).toNat ((wrap64 (a1 + 4)) : Int).toNat) 4 t288 _ A6.out) ?_; intro nd))
 go_ret;exact ⟨by first | rfl | (simp; done) | (simp [*]; done), by repeat (first | exact Drawn0.refl _ | apply Drawn0.step)⟩
mutual
def r10_Get.j0 : Nat → ByteArray → Int → Int → Bool → Option ((List (S61)) × Int)
 | 0, _, _, _, _ => none
 | k + 1, x0, x4, x5, x22 => if x22 = true then (some (([] : List (S61)), 5)) else (if x5 > 65536 then (some (([] : List (S61)), 7)) else ((r10_long.f k x0 4).bind fun t291 => (if t291 = (wrap64 (16 + (wrap64 (12 * x5)))) then (if (x0.size : Int) < (wrap64 (16 + (wrap64 (12 * x5)))) then (some (([] : List (S61)), 4)) else (r10_Get.l0 k x0 x4 x5 ([] : List (S61)) 0)) else (some (([] : List (S61)), 5)))))
def r10_Get.l0 : Nat → ByteArray → Int → Int → List (S61) → Int → Option ((List (S61)) × Int)
 | 0, _, _, _, _, _ => none
 | k + 1, x0, x4, x5, x6, x7 => if x7 < x5 then ((r10_long.f k x0 (wrap64 (16 + (wrap64 (12 * x7))))).bind fun t292 => ((r10_long.f k x0 (wrap64 ((wrap64 (16 + (wrap64 (12 * x7)))) + 4))).bind fun t293 => ((r10_long.f k x0 (wrap64 ((wrap64 (16 + (wrap64 (12 * x7)))) + 8))).bind fun t294 => (if x6.length < 4398046511104 then (r10_Get.l0 k x0 x4 x5 (x6 ++ [(⟨t292, t293, t294, wrap64 (13 - x4)⟩ : S61)]) (wrap64 (x7 + 1))) else (none))))) else ((r08_Is.f k x6).bind fun t298 => (if t298 = true then (some (x6, 0)) else (some (([] : List (S61)), 5))))
end
def r10_Get.f (k : Nat) (a0 : ByteArray) : Option ((List (S61)) × Int) := if (a0.size : Int) < 16 then (some (([] : List (S61)), 4)) else (if 0 ≤ 2 then (if 2 ≤ (a0.size : Int) then ((r03_One.f k (a0.extract 0 2) 2).bind fun t289 => ((r10_long.f k a0 12).bind fun t290 => (if t289 = 12 then (r10_Get.j0 k a0 t289 t290 false) else (r10_Get.j0 k a0 t289 t290 (t289 != 13))))) else (none)) else (none))
theorem r10_Get.calls (k : Nat) (a0 : ByteArray) (r1 : List (S61)) (r2 : Int) (w : World) (h : r10_Get.f k a0 = some (r1, r2)) :
  Calls Tryz.prog 30 #[.string a0] w fun e w' => ∃ v0_ : Value, e = .returned (.tuple #[v0_, .int .i64 r2]) ∧ Kd.R k61 61 w' w.heap.size (fun _ => True) v0_ r1 ∧ Below w.heap.size w w' := by
 have hu61 := Tryz.underlying61;have HB := aK (Below.refl w.heap.size w);have H : (if (a0.size : Int) < 16 then (some (([] : List (S61)), 4)) else (if 0 ≤ 2 then (if 2 ≤ (a0.size : Int) then ((r03_One.f k (a0.extract 0 2) 2).bind fun t289 => ((r10_long.f k a0 12).bind fun t290 => (if t289 = 12 then (r10_Get.j0 k a0 t289 t290 false) else (r10_Get.j0 k a0 t289 t290 (t289 != 13))))) else (none)) else (none))) = some (r1, r2) := h;clear h;replace H := qC H;rcases H with ⟨c2, H⟩ | ⟨c2, H⟩
 ·
  have c2b0 : decide ((a0.size : Int) < 16) = true := decide_eq_true c2;have c2b1 : decide (a0.size < 16) = true := decide_eq_true (by omega);clear c2;obtain ⟨rfl, rfl⟩ := qP H;go_enter Tryz.func30, Tryz.ntmps30;go_wp2;go_ret2;exact ⟨_, eA, nA, bA⟩
 have c2b0 : decide ((a0.size : Int) < 16) = false := decide_eq_false c2;have c2b1 : decide (a0.size < 16) = false := decide_eq_false (by omega);clear c2;replace H := nD H;obtain ⟨c3, c3b0, c3b1, H⟩ := H;clear c3;replace H := nD H;obtain ⟨c4, c4b0, c4b1, H⟩ := H;clear c4;replace H := qS H;obtain ⟨t289, A5, H⟩ := H;replace H := qS H;obtain ⟨t290, A6, H⟩ := H;have HC7 := aK H;clear H;go_enter Tryz.func30, Tryz.ntmps30;go_upto_region 5 with (first | ((with_reducible refine gate_callee (f := 26) rfl ?_); refine gD_ 14 Tryz.func26 (r03_One.calls k (a0.extract 0 2) 2 t289 _ A5.out) ?_; intro nd) | ((with_reducible refine gate_callee (f := 59) rfl ?_); refine gD_ 16 Tryz.func59 (r10_long.calls k a0 12 t290 _ A6.out) ?_; intro nd))
 (try simp only [Act.put, List.setIfInBounds_toArray, List.set_cons_zero, List.set_cons_succ])
 go_cut [22] (fun v22 wc => ∃ (kq : Nat) (x22_6 : Bool), v22 = .bool x22_6 ∧ Aside0 (r10_Get.j0 kq a0 t289 t290 x22_6 = some (r1, r2)) ∧ Aside0 (kq ≤ k) ∧ Aside0 (Below w.heap.size w wc))
 case first =>
  have H := HC7.out;clear HC7;replace H := qF H;rcases H with ⟨c8b0, c8b1, H⟩ | ⟨c8b0, c8b1, H⟩
  ·
   (first | rw [c8b0] | (simp only [i64_w, i32_w]; rw [c8b0]) | skip)
   have H' := aK H;clear H;go_wp2;go_meet
   case rel => exact ⟨_, (false), gA, H', ⟨oK⟩, ⟨bA⟩⟩
  (first | rw [c8b0] | (simp only [i64_w, i32_w]; rw [c8b0]) | skip)
  have H' := aK H;clear H;go_wp2;go_meet
  case rel => exact ⟨_, ((t289 != 13)), gA, H', ⟨oK⟩, ⟨bA⟩⟩
 case rest =>
  clear HC7;obtain ⟨kq, x22_6, rfl, HA, HJ6, HB⟩ := hcut;cases kq with
  | zero => exact absurd HA.out (by simp [r10_Get.j0])
  | succ kj6 =>
   have H := HA.out;clear HA;simp only [r10_Get.j0] at H;replace H := qB H;rcases H with ⟨rfl, H⟩ | ⟨rfl, H⟩
   ·
    obtain ⟨rfl, rfl⟩ := qP H;go_wp2;go_ret2;exact ⟨_, eA, nA, bA⟩
   replace H := qM H;rcases H with ⟨c10b0, H⟩ | ⟨c10b0, H⟩
   ·
    obtain ⟨rfl, rfl⟩ := qP H;go_wp2;go_ret2;exact ⟨_, eA, nA, bA⟩
   replace H := qS H;obtain ⟨t291, A11, H⟩ := H;replace H := qF H;rcases H with ⟨c12b0, c12b1, H⟩ | ⟨c12b0, c12b1, H⟩
   ·
    replace H := qL H;rcases H with ⟨c13b0, H⟩ | ⟨c13b0, H⟩
    ·
     obtain ⟨rfl, rfl⟩ := qP H;go_wp2_with (first | ((with_reducible refine gate_callee (f := 59) rfl ?_); refine gD_ 26 Tryz.func59 (r10_long.calls kj6 a0 4 t291 _ A11.out) ?_; intro nd))
     go_ret2;exact ⟨_, eA, nA, bA⟩
    have H' := aK H;clear H;go_wp2_with (first | ((with_reducible refine gate_callee (f := 59) rfl ?_); refine gD_ 26 Tryz.func59 (r10_long.calls kj6 a0 4 t291 _ A11.out) ?_; intro nd))
    go_loopg [6, 7] kj6 (fun kq v6 v7 w' => ∃ (x6_2 : List (S61)) (x7_2 : Int), v7 = .int .i64 x7_2 ∧ Aside0 (r10_Get.l0 kq a0 t289 t290 x6_2 x7_2 = some (r1, r2)) ∧ Aside0 (kq ≤ kj6) ∧ Aside0 (Kd.R k61 61 w' w.heap.size (fun _ => True) v6 x6_2) ∧ Aside0 (Below w.heap.size w w'))
    case atStart => exact ⟨(([] : List (S61))), (0), gA, H', ⟨Nat.le_refl _⟩, ⟨nA⟩, ⟨bA⟩⟩
    case round =>
     clear H';obtain ⟨x6_2, x7_2, rfl, HA, HK2, HO_6, HB⟩ := hrel;cases gk with
     | zero => exact absurd HA.out (by simp [r10_Get.l0])
     | succ k2 =>
      have H := HA.out;clear HA;simp only [r10_Get.l0] at H;replace H := qL H;rcases H with ⟨c14b0, H⟩ | ⟨c14b0, H⟩
      ·
       replace H := qS H;obtain ⟨t292, A15, H⟩ := H;replace H := qS H;obtain ⟨t293, A16, H⟩ := H;replace H := qS H;obtain ⟨t294, A17, H⟩ := H;replace H := nC H;obtain ⟨c18, H⟩ := H;have LMc18 := aK c18;clear c18;obtain ⟨y295, hy295⟩ : ∃ y_ : List (S61), y_ = (x6_2 ++ [(⟨t292, t293, t294, wrap64 (13 - t289)⟩ : S61)]) := ⟨_, rfl⟩;replace H : (r10_Get.l0 k2 a0 t289 t290 y295 (wrap64 (x7_2 + 1))) = some (r1, r2) := by rw [hy295]; exact H
       have Ny295 := aK hy295;clear hy295;have H' := aK H;clear H;go_wp2_with (first | ((with_reducible refine gate_callee (f := 59) rfl ?_); refine gD_ 48 Tryz.func59 (r10_long.calls k2 a0 (wrap64 (16 + (wrap64 (12 * x7_2)))) t292 _ A15.out) ?_; intro nd) | ((with_reducible refine gate_callee (f := 59) rfl ?_); refine gD_ 52 Tryz.func59 (r10_long.calls k2 a0 (wrap64 ((wrap64 (16 + (wrap64 (12 * x7_2)))) + 4)) t293 _ A16.out) ?_; intro nd) | ((with_reducible refine gate_callee (f := 59) rfl ?_); refine gD_ 56 Tryz.func59 (r10_long.calls k2 a0 (wrap64 ((wrap64 (16 + (wrap64 (12 * x7_2)))) + 8)) t294 _ A17.out) ?_; intro nd) | ((with_reducible refine gate_builtin (b := .append) (xs := #[.tmp 45, .tmp 60]) rfl ?_); at_builtin; refine Kd.R_append k61 (w0 := w) w.heap.size rfl (.tmp 45) (.tmp 60) 22 61 (.agg #[(.int .i64 0), (.int .i64 0), (.int .i64 0), (.int .i64 0)]) 32 rfl Tryz.underlying22 info61 rfl (by decide) (by omega) u6 x6_2 (⟨t292, t293, t294, wrap64 (13 - t289)⟩ : S61) [.int .i64 t292, .int .i64 t293, .int .i64 t294, .int .i64 (wrap64 (13 - t289))] (fun _ => True) (fun _ => False) rfl rfl ?aP (fun _ hk => hk.elim) ?aF ?aO ?aB ?aS ?aL ?_; (case aP => exact k61_mkM _ _ _ (⟨t292, t293, t294, wrap64 (13 - t289)⟩ : S61)); (case aB => exact bA); (case aF => exact (fun _ _ => trivial)); (case aO => exact (rA HO_6.out)); (case aS => exact (below_size bA)); (case aL => have := LMc18.out; omega); intro v296 w19 ho hb hg hat; rw [← Ny295.out] at ho; have n0_ := aK (hb); have n1_ := aK (ho); clear HB; clear HO_6; have HB := n0_; have HO297 := n1_; clear n0_ n1_; clear ho hb hg hat))
       go_roundg k2
       case measure => exact oK
       case rel => exact ⟨(y295), (wrap64 (x7_2 + 1)), gA, H', ⟨oK⟩, ⟨rA HO297.out⟩, ⟨bA⟩⟩
      replace H := qS H;obtain ⟨t298, A20, H⟩ := H;replace H := qB H;rcases H with ⟨rfl, H⟩ | ⟨rfl, H⟩
      ·
       obtain ⟨rfl, rfl⟩ := qP H;obtain ⟨Ao22, co22, eo22⟩ := Kd.R_slice HO_6.out;subst eo22;go_wp2_with (first | ((with_reducible refine gate_callee (f := 35) rfl ?_); refine gB_ 63 Tryz.func35 (r08_Is.calls k2 _ _ x6_2 true _ ?side1 ?side2 A20.out) ?_; (case side1 => exact cA (Kd.R_reads' HO_6.out).2.2); (case side2 => exact (Kd.R_reads' HO_6.out).2.1); clear HB; intro w23 hb HB; replace HO_6 := aK (Kd.R_below (rA HO_6.out) hb); clear hb))
       go_ret2;exact ⟨_, eA, rA HO_6.out, bA⟩
      obtain ⟨rfl, rfl⟩ := qP H;obtain ⟨Ao24, co24, eo24⟩ := Kd.R_slice HO_6.out;subst eo24;go_wp2_with (first | ((with_reducible refine gate_callee (f := 35) rfl ?_); refine gB_ 63 Tryz.func35 (r08_Is.calls k2 _ _ x6_2 false _ ?side1 ?side2 A20.out) ?_; (case side1 => exact cA (Kd.R_reads' HO_6.out).2.2); (case side2 => exact (Kd.R_reads' HO_6.out).2.1); clear HB; intro w25 hb HB; replace HO_6 := aK (Kd.R_below (rA HO_6.out) hb); clear hb))
      go_ret2;exact ⟨_, eA, nA, bA⟩
   obtain ⟨rfl, rfl⟩ := qP H;go_wp2_with (first | ((with_reducible refine gate_callee (f := 59) rfl ?_); refine gD_ 26 Tryz.func59 (r10_long.calls kj6 a0 4 t291 _ A11.out) ?_; intro nd))
   go_ret2;exact ⟨_, eA, nA, bA⟩
mutual
def r10_Split.j0 : Nat → List (S61) → Int → Bool → Option ((List (S61)) × Int)
 | 0, _, _, _ => none
 | k + 1, x0, x1, x21 => if x21 = true then (some (([] : List (S61)), 1)) else (r10_Split.l0 k x0 x1 ([] : List (S61)) 0)
def r10_Split.l0 : Nat → List (S61) → Int → List (S61) → Int → Option ((List (S61)) × Int)
 | 0, _, _, _, _ => none
 | k + 1, x0, x1, x6, x7 => if x7 < (x0.length : Int) then (if 0 ≤ x7 then (if ((rd_T61 x0 x7).f3) = x1 then (r10_Split.j2 k x0 x1 x6 x7 true ((rd_T61 x0 x7).f0) ((rd_T61 x0 x7).f1) ((rd_T61 x0 x7).f2) ((rd_T61 x0 x7).f3)) else (r10_Split.j2 k x0 x1 x6 x7 (((rd_T61 x0 x7).f0) == ((rd_T61 x0 x7).f1)) ((rd_T61 x0 x7).f0) ((rd_T61 x0 x7).f1) ((rd_T61 x0 x7).f2) ((rd_T61 x0 x7).f3))) else (none)) else (if (x6.length : Int) > 65536 then (some (([] : List (S61)), 7)) else (some (x6, 0)))
def r10_Split.j2 : Nat → List (S61) → Int → List (S61) → Int → Bool → Int → Int → Int → Int → Option ((List (S61)) × Int)
 | 0, _, _, _, _, _, _, _, _, _ => none
 | k + 1, x0, x1, x6, x7, x42, x443000, x443001, x443002, x443003 => if x42 = true then (if x443002 > 0 then (if x6.length < 4398046511104 then (r10_Split.l0 k x0 x1 (x6 ++ [(⟨x443000, x443001, x443002, x1⟩ : S61)]) (wrap64 (x7 + 1))) else (none)) else (if x443003 = 1 then (if x443001 > x443000 then (if x6.length < 4398046511104 then (r10_Split.l0 k x0 x1 (x6 ++ [(⟨x443000, x443001, x443002, x1⟩ : S61)]) (wrap64 (x7 + 1))) else (none)) else (r10_Split.l0 k x0 x1 x6 (wrap64 (x7 + 1)))) else (r10_Split.l0 k x0 x1 x6 (wrap64 (x7 + 1))))) else (r10_Split.l1 k x0 x1 x6 x7 x443000 x443000 x443001 x443002 x443003)
def r10_Split.l1 : Nat → List (S61) → Int → List (S61) → Int → Int → Int → Int → Int → Int → Option ((List (S61)) × Int)
 | 0, _, _, _, _, _, _, _, _, _ => none
 | k + 1, x0, x1, x6, x7, x9, x443000, x443001, x443002, x443003 => if x9 ≤ x443001 then (if (wrap64 (x443002 + (wrap64 (x443003 * (wrap64 (x9 - x443000)))))) > 0 then (if x6.length < 4398046511104 then ((some (x6 ++ [(⟨x9, x9, wrap64 (x443002 + (wrap64 (x443003 * (wrap64 (x9 - x443000))))), x1⟩ : S61)] : List (S61))).bind fun y449 => (if (y449.length : Int) > 65536 then (some (([] : List (S61)), 7)) else (r10_Split.l1 k x0 x1 y449 x7 (wrap64 (x9 + 1)) x443000 x443001 x443002 x443003))) else (none)) else (if (x6.length : Int) > 65536 then (some (([] : List (S61)), 7)) else (r10_Split.l1 k x0 x1 x6 x7 (wrap64 (x9 + 1)) x443000 x443001 x443002 x443003))) else (r10_Split.l0 k x0 x1 x6 (wrap64 (x7 + 1)))
end
def r10_Split.f (k : Nat) (l0 : List (S61)) (a1 : Int) : Option ((List (S61)) × Int) := (r08_Is.f k l0).bind fun t440 => (if t440 = true then (if a1 < 0 then (r10_Split.j0 k l0 a1 true) else (r10_Split.j0 k l0 a1 (decide (a1 > 1)))) else (r10_Split.j0 k l0 a1 true))
theorem r10_Split.calls (k : Nat) (A0 : Option Addr) (c0 : Nat) (l0 : List (S61)) (a1 : Int) (r1 : List (S61)) (r2 : Int) (w : World) (hr0 : Kd.C k61 w A0 l0.length l0) (hc0 : l0.length ≤ c0) (h : r10_Split.f k l0 a1 = some (r1, r2)) :
  Calls Tryz.prog 98 #[.slice A0 l0.length c0, .int .i64 a1] w fun e w' => ∃ v0_ : Value, e = .returned (.tuple #[v0_, .int .i64 r2]) ∧ Kd.R k61 61 w' w.heap.size (fun _ => True) v0_ r1 ∧ Below w.heap.size w w' := by
 have hu61 := Tryz.underlying61;have HR0 := aK hr0;have HC0 := aK hc0;clear hr0 hc0;have HB := aK (Below.refl w.heap.size w);have H : ((r08_Is.f k l0).bind fun t440 => (if t440 = true then (if a1 < 0 then (r10_Split.j0 k l0 a1 true) else (r10_Split.j0 k l0 a1 (decide (a1 > 1)))) else (r10_Split.j0 k l0 a1 true))) = some (r1, r2) := h;clear h;have HC3 := aK H;clear H;go_enter Tryz.func98, Tryz.ntmps98;go_upto_region 1 with (fail)
 go_cut [21] (fun v21 wc => ∃ (kq : Nat) (x21_2 : Bool), v21 = .bool x21_2 ∧ Aside0 (r10_Split.j0 kq l0 a1 x21_2 = some (r1, r2)) ∧ Aside0 (kq ≤ k) ∧ Aside0 (Below w.heap.size w wc))
 case first =>
  have H := HC3.out;clear HC3;replace H := qS H;obtain ⟨t440, A4, H⟩ := H;replace H := qB H;rcases H with ⟨rfl, H⟩ | ⟨rfl, H⟩
  ·
   replace H := qL H;rcases H with ⟨c6b0, H⟩ | ⟨c6b0, H⟩
   ·
    (first | rw [c6b0] | (simp only [i64_w, i32_w]; rw [c6b0]) | skip)
    have H' := aK H;clear H;go_wp2_with (first | ((with_reducible refine gate_callee (f := 35) rfl ?_); refine gB_ 12 Tryz.func35 (r08_Is.calls k _ _ l0 true _ ?side1 ?side2 A4.out) ?_; (case side1 => exact cB HR0.out); (case side2 => exact HC0.out); clear HB; intro w7 hb HB; clear hb))
    go_meet
    case rel => exact ⟨_, (true), gA, H', ⟨oK⟩, ⟨bA⟩⟩
   (first | rw [c6b0] | (simp only [i64_w, i32_w]; rw [c6b0]) | skip)
   have H' := aK H;clear H;go_wp2_with (first | ((with_reducible refine gate_callee (f := 35) rfl ?_); refine gB_ 12 Tryz.func35 (r08_Is.calls k _ _ l0 true _ ?side1 ?side2 A4.out) ?_; (case side1 => exact cB HR0.out); (case side2 => exact HC0.out); clear HB; intro w8 hb HB; clear hb))
   go_meet
   case rel => exact ⟨_, (decide (a1 > 1)), gA, H', ⟨oK⟩, ⟨bA⟩⟩
  have H' := aK H;clear H;go_wp2_with (first | ((with_reducible refine gate_callee (f := 35) rfl ?_); refine gB_ 12 Tryz.func35 (r08_Is.calls k _ _ l0 false _ ?side1 ?side2 A4.out) ?_; (case side1 => exact cB HR0.out); (case side2 => exact HC0.out); clear HB; intro w9 hb HB; clear hb))
  go_meet
  case rel => exact ⟨_, (true), gA, H', ⟨oK⟩, ⟨bA⟩⟩
 case rest =>
  clear HC3;obtain ⟨kq, x21_2, rfl, HA, HJ2, HB⟩ := hcut;cases kq with
  | zero => exact absurd HA.out (by simp [r10_Split.j0])
  | succ kj2 =>
   have H := HA.out;clear HA;simp only [r10_Split.j0] at H;replace H := qB H;rcases H with ⟨rfl, H⟩ | ⟨rfl, H⟩
   ·
    obtain ⟨rfl, rfl⟩ := qP H;go_wp2;go_ret2;exact ⟨_, eA, nA, bA⟩
   have H' := aK H;clear H;go_wp2;go_loopg [6, 7] kj2 (fun kq v6 v7 w' => ∃ (x6_2 : List (S61)) (x7_2 : Int), v7 = .int .i64 x7_2 ∧ Aside0 (r10_Split.l0 kq l0 a1 x6_2 x7_2 = some (r1, r2)) ∧ Aside0 (kq ≤ kj2) ∧ Aside0 (Kd.R k61 61 w' w.heap.size (fun _ => True) v6 x6_2) ∧ Aside0 (Below w.heap.size w w'))
   case atStart => exact ⟨(([] : List (S61))), (0), gA, H', ⟨Nat.le_refl _⟩, ⟨nA⟩, ⟨bA⟩⟩
   case round =>
    clear H';obtain ⟨x6_2, x7_2, rfl, HA, HK2, HO_6, HB⟩ := hrel;cases gk with
    | zero => exact absurd HA.out (by simp [r10_Split.l0])
    | succ k2 =>
     have H := HA.out;clear HA;simp only [r10_Split.l0] at H;replace H := qL H;rcases H with ⟨c11b0, H⟩ | ⟨c11b0, H⟩
     ·
      replace H := nL H;obtain ⟨c12b0, H⟩ := H;have HC13 := aK H;clear H;obtain ⟨p441, q441, ad441, e441, hx441_0, hx441_1, hx441_2, hx441_3⟩ := aT (at_T61 HR0.out x7_2);cases e441
      replace hx441_0 := kM HB.out hx441_0;replace hx441_1 := kM HB.out hx441_1;replace hx441_2 := kM HB.out hx441_2;replace hx441_3 := kM HB.out hx441_3;go_upto_region 8 with (first | ((with_reducible refine gate_dst (N := 8) rfl ?_); refine box_event ?hg (N := 8) ?hd (cs := #[.int .i64 0, .int .i64 0, .int .i64 0, .int .i64 0]) (t := 61) ?hr ?_; (case hd => rfl); (case hg => rfl); (case hr => exact hA); intro gb442 hg w14 hbox hb; have BK442 := aK (hbox); have GW442 := aK ((by rw [hg]; exact (below_size bA) : w.heap.size ≤ gb442)); have GE442 := aK ((by rw [hg]; exact (below_size bA) : w.heap.size ≤ gb442)); replace HO_6 := aK (Kd.R_below (Kd.R_elderB (rA HO_6.out) gb442 (Nat.le_of_eq hg.symm)) hb); replace HB := aK (below_step bA hb); clear hb hbox hg; have hcz15_0 : w14.cell? ⟨gb442, 0, none⟩ = some (.int .i64 0) := (blk_cell BK442.out 0).trans rfl; have hcz15_1 : w14.cell? ⟨gb442, 1, none⟩ = some (.int .i64 0) := (blk_cell BK442.out 1).trans rfl; have hcz15_2 : w14.cell? ⟨gb442, 2, none⟩ = some (.int .i64 0) := (blk_cell BK442.out 2).trans rfl; have hcz15_3 : w14.cell? ⟨gb442, 3, none⟩ = some (.int .i64 0) := (blk_cell BK442.out 3).trans rfl; have hfz15_0 := blk_frozen BK442.out 0; have hfz15_1 := blk_frozen BK442.out 1; have hfz15_2 := blk_frozen BK442.out 2; have hfz15_3 := blk_frozen BK442.out 3))
      (try simp only [Act.put, List.setIfInBounds_toArray, List.set_cons_zero, List.set_cons_succ])
      go_cut [42] (fun v42 wc => ∃ (kq : Nat) (x42_12 : Bool), v42 = .bool x42_12 ∧ Aside0 (r10_Split.j2 kq l0 a1 x6_2 x7_2 x42_12 ((rd_T61 l0 x7_2).f0) ((rd_T61 l0 x7_2).f1) ((rd_T61 l0 x7_2).f2) ((rd_T61 l0 x7_2).f3) = some (r1, r2)) ∧ Aside0 (kq ≤ k2) ∧ Aside0 (Kd.R k61 61 wc w.heap.size (fun k_ => k_ ≠ gb442) u6 x6_2) ∧ Aside0 (wc.heap[gb442]? = some (.cells #[.int .i64 ((rd_T61 l0 x7_2).f0), .int .i64 ((rd_T61 l0 x7_2).f1), .int .i64 ((rd_T61 l0 x7_2).f2), .int .i64 ((rd_T61 l0 x7_2).f3)] 61 (0, 0))) ∧ Aside0 (Below w.heap.size w wc))
      case first =>
       have H := HC13.out;clear HC13;replace H := qF H;rcases H with ⟨c16b0, c16b1, H⟩ | ⟨c16b0, c16b1, H⟩
       ·
        (first | rw [c16b0] | (simp only [i64_w, i32_w]; rw [c16b0]) | skip)
        have H' := aK H;clear H;obtain ⟨hcz17_0, hcz17_1, hcz17_2, hcz17_3, hfz17_0, hfz17_1, hfz17_2, hfz17_3⟩ := blk4 BK442.out;go_wp2;go_meet
        case rel => exact ⟨_, (true), gA, H', ⟨oK⟩, ⟨rA (Kd.R_mono (Kd.R_far (p := ⟨gb442, 3, none⟩) (Kd.R_far (p := ⟨gb442, 2, none⟩) (Kd.R_far (p := ⟨gb442, 1, none⟩) (Kd.R_far (p := ⟨gb442, 0, none⟩) (Kd.R_mono HO_6.out (fun k_ hk => (⟨hk, hk.2⟩ : _ ∧ k_ ≠ gb442))) (fun _ hk => hk.2) (.int .i64 ((rd_T61 l0 x7_2).f0))) (fun _ hk => hk.2) (.int .i64 ((rd_T61 l0 x7_2).f1))) (fun _ hk => hk.2) (.int .i64 ((rd_T61 l0 x7_2).f2))) (fun _ hk => hk.2) (.int .i64 ((rd_T61 l0 x7_2).f3))) (fun _ hk => hk.1.2))⟩, ⟨by (with_reducible repeat (first | refine blk_drewN ?_ _ | refine blk_drew ?_ | refine blk_alloc ?_ _)); refine blk_put (cs := #[.int .i64 ((rd_T61 l0 x7_2).f0), .int .i64 ((rd_T61 l0 x7_2).f1), .int .i64 ((rd_T61 l0 x7_2).f2), .int .i64 0]) ?_ 3 _ rfl; (with_reducible repeat (first | refine blk_drewN ?_ _ | refine blk_drew ?_ | refine blk_alloc ?_ _)); refine blk_put (cs := #[.int .i64 ((rd_T61 l0 x7_2).f0), .int .i64 ((rd_T61 l0 x7_2).f1), .int .i64 0, .int .i64 0]) ?_ 2 _ rfl; (with_reducible repeat (first | refine blk_drewN ?_ _ | refine blk_drew ?_ | refine blk_alloc ?_ _)); refine blk_put (cs := #[.int .i64 ((rd_T61 l0 x7_2).f0), .int .i64 0, .int .i64 0, .int .i64 0]) ?_ 1 _ rfl; (with_reducible repeat (first | refine blk_drewN ?_ _ | refine blk_drew ?_ | refine blk_alloc ?_ _)); refine blk_put (cs := #[.int .i64 0, .int .i64 0, .int .i64 0, .int .i64 0]) ?_ 0 _ rfl; (with_reducible repeat (first | refine blk_drewN ?_ _ | refine blk_drew ?_ | refine blk_alloc ?_ _)); exact BK442.out⟩, ⟨bG GE442.out⟩⟩
       (first | rw [c16b0] | (simp only [i64_w, i32_w]; rw [c16b0]) | skip)
       have H' := aK H;clear H;obtain ⟨hcz18_0, hcz18_1, hcz18_2, hcz18_3, hfz18_0, hfz18_1, hfz18_2, hfz18_3⟩ := blk4 BK442.out;go_wp2;go_meet
       case rel => exact ⟨_, ((((rd_T61 l0 x7_2).f0) == ((rd_T61 l0 x7_2).f1))), gA, H', ⟨oK⟩, ⟨rA (Kd.R_mono (Kd.R_far (p := ⟨gb442, 3, none⟩) (Kd.R_far (p := ⟨gb442, 2, none⟩) (Kd.R_far (p := ⟨gb442, 1, none⟩) (Kd.R_far (p := ⟨gb442, 0, none⟩) (Kd.R_mono HO_6.out (fun k_ hk => (⟨hk, hk.2⟩ : _ ∧ k_ ≠ gb442))) (fun _ hk => hk.2) (.int .i64 ((rd_T61 l0 x7_2).f0))) (fun _ hk => hk.2) (.int .i64 ((rd_T61 l0 x7_2).f1))) (fun _ hk => hk.2) (.int .i64 ((rd_T61 l0 x7_2).f2))) (fun _ hk => hk.2) (.int .i64 ((rd_T61 l0 x7_2).f3))) (fun _ hk => hk.1.2))⟩, ⟨by (with_reducible repeat (first | refine blk_drewN ?_ _ | refine blk_drew ?_ | refine blk_alloc ?_ _)); refine blk_put (cs := #[.int .i64 ((rd_T61 l0 x7_2).f0), .int .i64 ((rd_T61 l0 x7_2).f1), .int .i64 ((rd_T61 l0 x7_2).f2), .int .i64 0]) ?_ 3 _ rfl; (with_reducible repeat (first | refine blk_drewN ?_ _ | refine blk_drew ?_ | refine blk_alloc ?_ _)); refine blk_put (cs := #[.int .i64 ((rd_T61 l0 x7_2).f0), .int .i64 ((rd_T61 l0 x7_2).f1), .int .i64 0, .int .i64 0]) ?_ 2 _ rfl; (with_reducible repeat (first | refine blk_drewN ?_ _ | refine blk_drew ?_ | refine blk_alloc ?_ _)); refine blk_put (cs := #[.int .i64 ((rd_T61 l0 x7_2).f0), .int .i64 0, .int .i64 0, .int .i64 0]) ?_ 1 _ rfl; (with_reducible repeat (first | refine blk_drewN ?_ _ | refine blk_drew ?_ | refine blk_alloc ?_ _)); refine blk_put (cs := #[.int .i64 0, .int .i64 0, .int .i64 0, .int .i64 0]) ?_ 0 _ rfl; (with_reducible repeat (first | refine blk_drewN ?_ _ | refine blk_drew ?_ | refine blk_alloc ?_ _)); exact BK442.out⟩, ⟨bG GE442.out⟩⟩
      case rest =>
       clear HC13;try clear q4 hx4 hcz15_0 hcz15_1 hcz15_2 hcz15_3 hcz17_0 hcz17_1 hcz17_2 hcz17_3 hcz18_0 hcz18_1 hcz18_2 hcz18_3 hfz15_0 hfz15_1 hfz15_2 hfz15_3 hfz17_0 hfz17_1 hfz17_2 hfz17_3 hfz18_0 hfz18_1 hfz18_2 hfz18_3 hx441_0 hx441_1 hx441_2 hx441_3 q441
       obtain ⟨kq, x42_12, rfl, HA, HJ12, HO_6, BK442, HB⟩ := hcut;cases kq with
       | zero => exact absurd HA.out (by simp [r10_Split.j2])
       | succ kj12 =>
        have H := HA.out;clear HA;simp only [r10_Split.j2] at H;replace H := qB H;rcases H with ⟨rfl, H⟩ | ⟨rfl, H⟩
        ·
         replace H := qM H;rcases H with ⟨c20b0, H⟩ | ⟨c20b0, H⟩
         ·
          replace H := nC H;obtain ⟨c21, H⟩ := H;have LMc21 := aK c21;clear c21;obtain ⟨y443, hy443⟩ : ∃ y_ : List (S61), y_ = (x6_2 ++ [(⟨((rd_T61 l0 x7_2).f0), ((rd_T61 l0 x7_2).f1), ((rd_T61 l0 x7_2).f2), a1⟩ : S61)]) := ⟨_, rfl⟩;replace H : (r10_Split.l0 kj12 l0 a1 y443 (wrap64 (x7_2 + 1))) = some (r1, r2) := by rw [hy443]; exact H
          have Ny443 := aK hy443;clear hy443;have H' := aK H;clear H;obtain ⟨hcz22_0, hcz22_1, hcz22_2, hcz22_3, hfz22_0, hfz22_1, hfz22_2, hfz22_3⟩ := blk4 BK442.out;go_wp2_with (first | ((with_reducible refine gate_builtin (b := .append) (xs := #[.tmp 60, .tmp 62]) rfl ?_); at_builtin; refine Kd.R_append k61 (w0 := w) w.heap.size rfl (.tmp 60) (.tmp 62) 22 61 (.agg #[(.int .i64 0), (.int .i64 0), (.int .i64 0), (.int .i64 0)]) 32 rfl Tryz.underlying22 info61 rfl (by decide) (by omega) u6 x6_2 (⟨((rd_T61 l0 x7_2).f0), ((rd_T61 l0 x7_2).f1), ((rd_T61 l0 x7_2).f2), a1⟩ : S61) [.int .i64 ((rd_T61 l0 x7_2).f0), .int .i64 ((rd_T61 l0 x7_2).f1), .int .i64 ((rd_T61 l0 x7_2).f2), .int .i64 a1] (fun k_ => k_ ≠ gb442) (fun _ => False) rfl (by first | (go_simp; done) | (go_simp; rfl)) ?aP (fun _ hk => hk.elim) ?aF ?aO ?aB ?aS ?aL ?_; (case aP => exact k61_mkM _ _ _ (⟨((rd_T61 l0 x7_2).f0), ((rd_T61 l0 x7_2).f1), ((rd_T61 l0 x7_2).f2), a1⟩ : S61)); (case aB => exact (bG GE442.out)); (case aF => exact (fun k_ hk => Kd.freshB (g := gb442) (o := .cells #[.int .i64 ((rd_T61 l0 x7_2).f0), .int .i64 ((rd_T61 l0 x7_2).f1), .int .i64 ((rd_T61 l0 x7_2).f2), .int .i64 a1] 61 (0, 0)) (by (with_reducible repeat (first | refine blk_drewN ?_ _ | refine blk_drew ?_ | refine blk_alloc ?_ _)); refine blk_put (cs := #[.int .i64 ((rd_T61 l0 x7_2).f0), .int .i64 ((rd_T61 l0 x7_2).f1), .int .i64 ((rd_T61 l0 x7_2).f2), .int .i64 ((rd_T61 l0 x7_2).f3)]) ?_ 3 _ rfl; (with_reducible repeat (first | refine blk_drewN ?_ _ | refine blk_drew ?_ | refine blk_alloc ?_ _)); exact BK442.out) k_ hk)); (case aO => exact (rA (Kd.R_mono (Kd.R_far (p := ⟨gb442, 3, none⟩) (Kd.R_mono HO_6.out (fun k_ hk => (⟨hk, hk⟩ : _ ∧ k_ ≠ gb442))) (fun _ hk => hk.2) (.int .i64 a1)) (fun _ hk => hk.1)))); (case aS => exact (below_size (bG GE442.out))); (case aL => have := LMc21.out; omega); intro v444 w23 ho hb hg hat; rw [← Ny443.out] at ho; have n0_ := aK (blk_grown (g := gb442) (o := .cells #[.int .i64 ((rd_T61 l0 x7_2).f0), .int .i64 ((rd_T61 l0 x7_2).f1), .int .i64 ((rd_T61 l0 x7_2).f2), .int .i64 a1] 61 (0, 0)) (by (with_reducible repeat (first | refine blk_drewN ?_ _ | refine blk_drew ?_ | refine blk_alloc ?_ _)); refine blk_put (cs := #[.int .i64 ((rd_T61 l0 x7_2).f0), .int .i64 ((rd_T61 l0 x7_2).f1), .int .i64 ((rd_T61 l0 x7_2).f2), .int .i64 ((rd_T61 l0 x7_2).f3)]) ?_ 3 _ rfl; (with_reducible repeat (first | refine blk_drewN ?_ _ | refine blk_drew ?_ | refine blk_alloc ?_ _)); exact BK442.out) hg (Kd.R_away HO_6.out (fun _ hk => hk))); have n1_ := aK (hb); have n2_ := aK (ho); clear BK442; clear HB; clear HO_6; have BK442 := n0_; have HB := n1_; have HO445 := n2_; clear n0_ n1_ n2_; clear ho hb hg hat))
          go_roundg kj12
          case measure => exact oK
          case rel => exact ⟨(y443), (wrap64 (x7_2 + 1)), gA, H', ⟨oK⟩, ⟨rA (Kd.R_mono HO445.out (fun _ hk => trivial))⟩, ⟨bG GE442.out⟩⟩
         replace H := qF H;rcases H with ⟨c24b0, c24b1, H⟩ | ⟨c24b0, c24b1, H⟩
         ·
          replace H := qM H;rcases H with ⟨c25b0, H⟩ | ⟨c25b0, H⟩
          ·
           replace H := nC H;obtain ⟨c26, H⟩ := H;have LMc26 := aK c26;clear c26;obtain ⟨y446, hy446⟩ : ∃ y_ : List (S61), y_ = (x6_2 ++ [(⟨((rd_T61 l0 x7_2).f0), ((rd_T61 l0 x7_2).f1), ((rd_T61 l0 x7_2).f2), a1⟩ : S61)]) := ⟨_, rfl⟩;replace H : (r10_Split.l0 kj12 l0 a1 y446 (wrap64 (x7_2 + 1))) = some (r1, r2) := by rw [hy446]; exact H
           have Ny446 := aK hy446;clear hy446;have H' := aK H;clear H;obtain ⟨hcz27_0, hcz27_1, hcz27_2, hcz27_3, hfz27_0, hfz27_1, hfz27_2, hfz27_3⟩ := blk4 BK442.out;go_wp2_with (first | ((with_reducible refine gate_builtin (b := .append) (xs := #[.tmp 60, .tmp 62]) rfl ?_); at_builtin; refine Kd.R_append k61 (w0 := w) w.heap.size rfl (.tmp 60) (.tmp 62) 22 61 (.agg #[(.int .i64 0), (.int .i64 0), (.int .i64 0), (.int .i64 0)]) 32 rfl Tryz.underlying22 info61 rfl (by decide) (by omega) u6 x6_2 (⟨((rd_T61 l0 x7_2).f0), ((rd_T61 l0 x7_2).f1), ((rd_T61 l0 x7_2).f2), a1⟩ : S61) [.int .i64 ((rd_T61 l0 x7_2).f0), .int .i64 ((rd_T61 l0 x7_2).f1), .int .i64 ((rd_T61 l0 x7_2).f2), .int .i64 a1] (fun k_ => k_ ≠ gb442) (fun _ => False) rfl (by first | (go_simp; done) | (go_simp; rfl)) ?aP (fun _ hk => hk.elim) ?aF ?aO ?aB ?aS ?aL ?_; (case aP => exact k61_mkM _ _ _ (⟨((rd_T61 l0 x7_2).f0), ((rd_T61 l0 x7_2).f1), ((rd_T61 l0 x7_2).f2), a1⟩ : S61)); (case aB => exact (bG GE442.out)); (case aF => exact (fun k_ hk => Kd.freshB (g := gb442) (o := .cells #[.int .i64 ((rd_T61 l0 x7_2).f0), .int .i64 ((rd_T61 l0 x7_2).f1), .int .i64 ((rd_T61 l0 x7_2).f2), .int .i64 a1] 61 (0, 0)) (by (with_reducible repeat (first | refine blk_drewN ?_ _ | refine blk_drew ?_ | refine blk_alloc ?_ _)); refine blk_put (cs := #[.int .i64 ((rd_T61 l0 x7_2).f0), .int .i64 ((rd_T61 l0 x7_2).f1), .int .i64 ((rd_T61 l0 x7_2).f2), .int .i64 ((rd_T61 l0 x7_2).f3)]) ?_ 3 _ rfl; (with_reducible repeat (first | refine blk_drewN ?_ _ | refine blk_drew ?_ | refine blk_alloc ?_ _)); exact BK442.out) k_ hk)); (case aO => exact (rA (Kd.R_mono (Kd.R_far (p := ⟨gb442, 3, none⟩) (Kd.R_mono HO_6.out (fun k_ hk => (⟨hk, hk⟩ : _ ∧ k_ ≠ gb442))) (fun _ hk => hk.2) (.int .i64 a1)) (fun _ hk => hk.1)))); (case aS => exact (below_size (bG GE442.out))); (case aL => have := LMc26.out; omega); intro v447 w28 ho hb hg hat; rw [← Ny446.out] at ho; have n0_ := aK (blk_grown (g := gb442) (o := .cells #[.int .i64 ((rd_T61 l0 x7_2).f0), .int .i64 ((rd_T61 l0 x7_2).f1), .int .i64 ((rd_T61 l0 x7_2).f2), .int .i64 a1] 61 (0, 0)) (by (with_reducible repeat (first | refine blk_drewN ?_ _ | refine blk_drew ?_ | refine blk_alloc ?_ _)); refine blk_put (cs := #[.int .i64 ((rd_T61 l0 x7_2).f0), .int .i64 ((rd_T61 l0 x7_2).f1), .int .i64 ((rd_T61 l0 x7_2).f2), .int .i64 ((rd_T61 l0 x7_2).f3)]) ?_ 3 _ rfl; (with_reducible repeat (first | refine blk_drewN ?_ _ | refine blk_drew ?_ | refine blk_alloc ?_ _)); exact BK442.out) hg (Kd.R_away HO_6.out (fun _ hk => hk))); have n1_ := aK (hb); have n2_ := aK (ho); clear BK442; clear HB; clear HO_6; have BK442 := n0_; have HB := n1_; have HO448 := n2_; clear n0_ n1_ n2_; clear ho hb hg hat))
           go_roundg kj12
           case measure => exact oK
           case rel => exact ⟨(y446), (wrap64 (x7_2 + 1)), gA, H', ⟨oK⟩, ⟨rA (Kd.R_mono HO448.out (fun _ hk => trivial))⟩, ⟨bG GE442.out⟩⟩
          have H' := aK H;clear H;obtain ⟨hcz29_0, hcz29_1, hcz29_2, hcz29_3, hfz29_0, hfz29_1, hfz29_2, hfz29_3⟩ := blk4 BK442.out;go_wp2;go_roundg kj12
          case measure => exact oK
          case rel => exact ⟨(x6_2), (wrap64 (x7_2 + 1)), gA, H', ⟨oK⟩, ⟨rA (Kd.R_mono HO_6.out (fun _ hk => trivial))⟩, ⟨bG GE442.out⟩⟩
         have H' := aK H;clear H;obtain ⟨hcz30_0, hcz30_1, hcz30_2, hcz30_3, hfz30_0, hfz30_1, hfz30_2, hfz30_3⟩ := blk4 BK442.out;go_wp2;go_roundg kj12
         case measure => exact oK
         case rel => exact ⟨(x6_2), (wrap64 (x7_2 + 1)), gA, H', ⟨oK⟩, ⟨rA (Kd.R_mono HO_6.out (fun _ hk => trivial))⟩, ⟨bG GE442.out⟩⟩
        have H' := aK H;clear H;obtain ⟨hcz31_0, hcz31_1, hcz31_2, hcz31_3, hfz31_0, hfz31_1, hfz31_2, hfz31_3⟩ := blk4 BK442.out;go_wp2;go_loopg [6, 9] kj12 (fun kq v6 v9 w' => ∃ (x6_4 : List (S61)) (x9_4 : Int), v9 = .int .i64 x9_4 ∧ Aside0 (r10_Split.l1 kq l0 a1 x6_4 x7_2 x9_4 ((rd_T61 l0 x7_2).f0) ((rd_T61 l0 x7_2).f1) ((rd_T61 l0 x7_2).f2) ((rd_T61 l0 x7_2).f3) = some (r1, r2)) ∧ Aside0 (kq ≤ kj12) ∧ Aside0 (Kd.R k61 61 w' w.heap.size (fun k_ => k_ ≠ gb442) v6 x6_4) ∧ Aside0 (w'.heap[gb442]? = some (.cells #[.int .i64 ((rd_T61 l0 x7_2).f0), .int .i64 ((rd_T61 l0 x7_2).f1), .int .i64 ((rd_T61 l0 x7_2).f2), .int .i64 ((rd_T61 l0 x7_2).f3)] 61 (0, 0))) ∧ Aside0 (Below w.heap.size w w'))
        case atStart => exact ⟨(x6_2), (((rd_T61 l0 x7_2).f0)), gA, H', ⟨Nat.le_refl _⟩, ⟨rA HO_6.out⟩, ⟨by (with_reducible repeat (first | refine blk_drewN ?_ _ | refine blk_drew ?_ | refine blk_alloc ?_ _)); exact BK442.out⟩, ⟨bG GE442.out⟩⟩
        case round =>
         clear H';try clear q4 hx4 hcz15_0 hcz15_1 hcz15_2 hcz15_3 hcz17_0 hcz17_1 hcz17_2 hcz17_3 hcz18_0 hcz18_1 hcz18_2 hcz18_3 hcz22_0 hcz22_1 hcz22_2 hcz22_3 hcz27_0 hcz27_1 hcz27_2 hcz27_3 hcz29_0 hcz29_1 hcz29_2 hcz29_3 hcz30_0 hcz30_1 hcz30_2 hcz30_3 hcz31_0 hcz31_1 hcz31_2 hcz31_3 hfz15_0 hfz15_1 hfz15_2 hfz15_3 hfz17_0 hfz17_1 hfz17_2 hfz17_3 hfz18_0 hfz18_1 hfz18_2 hfz18_3 hfz22_0 hfz22_1 hfz22_2 hfz22_3 hfz27_0 hfz27_1 hfz27_2 hfz27_3 hfz29_0 hfz29_1 hfz29_2 hfz29_3 hfz30_0 hfz30_1 hfz30_2 hfz30_3 hfz31_0 hfz31_1 hfz31_2 hfz31_3 hx441_0 hx441_1 hx441_2 hx441_3 q4 q441
         obtain ⟨x6_4, x9_4, rfl, HA, HK4, HO_6, BK442, HB⟩ := hrel;cases gk with
         | zero => exact absurd HA.out (by simp [r10_Split.l1])
         | succ k4 =>
          have H := HA.out;clear HA;simp only [r10_Split.l1] at H;replace H := qL H;rcases H with ⟨c32b0, H⟩ | ⟨c32b0, H⟩
          ·
           replace H := qM H;rcases H with ⟨c33b0, H⟩ | ⟨c33b0, H⟩
           ·
            replace H := nC H;obtain ⟨c34, H⟩ := H;have LMc34 := aK c34;clear c34;replace H := yE H;obtain ⟨y449, hy449, H⟩ := H;have Ny449 := aK hy449;clear hy449;replace H := qC H;rcases H with ⟨c35, H⟩ | ⟨c35, H⟩
            ·
             have c35b0 : decide (65536 < (y449.length : Int)) = true := decide_eq_true c35;have c35b1 : decide (65536 < y449.length) = true := decide_eq_true (by omega);clear c35;obtain ⟨rfl, rfl⟩ := qP H;obtain ⟨hcz36_0, hcz36_1, hcz36_2, hcz36_3, hfz36_0, hfz36_1, hfz36_2, hfz36_3⟩ := blk4 BK442.out;go_wp2_with (first | ((with_reducible refine gate_builtin (b := .append) (xs := #[.tmp 84, .tmp 90]) rfl ?_); at_builtin; refine Kd.R_append k61 (w0 := w) w.heap.size rfl (.tmp 84) (.tmp 90) 22 61 (.agg #[(.int .i64 0), (.int .i64 0), (.int .i64 0), (.int .i64 0)]) 32 rfl Tryz.underlying22 info61 rfl (by decide) (by omega) u6 x6_4 (⟨x9_4, x9_4, wrap64 (((rd_T61 l0 x7_2).f2) + (wrap64 (((rd_T61 l0 x7_2).f3) * (wrap64 (x9_4 - ((rd_T61 l0 x7_2).f0)))))), a1⟩ : S61) [.int .i64 x9_4, .int .i64 x9_4, .int .i64 (wrap64 (((rd_T61 l0 x7_2).f2) + (wrap64 (((rd_T61 l0 x7_2).f3) * (wrap64 (x9_4 - ((rd_T61 l0 x7_2).f0))))))), .int .i64 a1] (fun k_ => k_ ≠ gb442) (fun _ => False) rfl rfl ?aP (fun _ hk => hk.elim) ?aF ?aO ?aB ?aS ?aL ?_; (case aP => exact k61_mkM _ _ _ (⟨x9_4, x9_4, wrap64 (((rd_T61 l0 x7_2).f2) + (wrap64 (((rd_T61 l0 x7_2).f3) * (wrap64 (x9_4 - ((rd_T61 l0 x7_2).f0)))))), a1⟩ : S61)); (case aB => exact (bG GE442.out)); (case aF => exact (fun k_ hk => Kd.freshB (g := gb442) (o := .cells #[.int .i64 ((rd_T61 l0 x7_2).f0), .int .i64 ((rd_T61 l0 x7_2).f1), .int .i64 ((rd_T61 l0 x7_2).f2), .int .i64 ((rd_T61 l0 x7_2).f3)] 61 (0, 0)) (by (with_reducible repeat (first | refine blk_drewN ?_ _ | refine blk_drew ?_ | refine blk_alloc ?_ _)); exact BK442.out) k_ hk)); (case aO => exact (rA HO_6.out)); (case aS => exact (below_size (bG GE442.out))); (case aL => have := LMc34.out; omega); intro v450 w37 ho hb hg hat; rw [← Ny449.out] at ho; have n0_ := aK (blk_grown (g := gb442) (o := .cells #[.int .i64 ((rd_T61 l0 x7_2).f0), .int .i64 ((rd_T61 l0 x7_2).f1), .int .i64 ((rd_T61 l0 x7_2).f2), .int .i64 ((rd_T61 l0 x7_2).f3)] 61 (0, 0)) (by (with_reducible repeat (first | refine blk_drewN ?_ _ | refine blk_drew ?_ | refine blk_alloc ?_ _)); exact BK442.out) hg (Kd.R_away HO_6.out (fun _ hk => hk))); have n1_ := aK (hb); have n2_ := aK (ho); clear BK442; clear HB; clear HO_6; have BK442 := n0_; have HB := n1_; have HO451 := n2_; clear n0_ n1_ n2_; clear ho hb hg hat; obtain ⟨Ao38, co38, eo38⟩ := Kd.R_slice HO451.out; subst eo38))
             go_ret2;exact ⟨_, eA, nA, bG GE442.out⟩
            have c35b0 : decide (65536 < (y449.length : Int)) = false := decide_eq_false c35;have c35b1 : decide (65536 < y449.length) = false := decide_eq_false (by omega);clear c35;have H' := aK H;clear H;obtain ⟨hcz39_0, hcz39_1, hcz39_2, hcz39_3, hfz39_0, hfz39_1, hfz39_2, hfz39_3⟩ := blk4 BK442.out;go_wp2_with (first | ((with_reducible refine gate_builtin (b := .append) (xs := #[.tmp 84, .tmp 90]) rfl ?_); at_builtin; refine Kd.R_append k61 (w0 := w) w.heap.size rfl (.tmp 84) (.tmp 90) 22 61 (.agg #[(.int .i64 0), (.int .i64 0), (.int .i64 0), (.int .i64 0)]) 32 rfl Tryz.underlying22 info61 rfl (by decide) (by omega) u6 x6_4 (⟨x9_4, x9_4, wrap64 (((rd_T61 l0 x7_2).f2) + (wrap64 (((rd_T61 l0 x7_2).f3) * (wrap64 (x9_4 - ((rd_T61 l0 x7_2).f0)))))), a1⟩ : S61) [.int .i64 x9_4, .int .i64 x9_4, .int .i64 (wrap64 (((rd_T61 l0 x7_2).f2) + (wrap64 (((rd_T61 l0 x7_2).f3) * (wrap64 (x9_4 - ((rd_T61 l0 x7_2).f0))))))), .int .i64 a1] (fun k_ => k_ ≠ gb442) (fun _ => False) rfl rfl ?aP (fun _ hk => hk.elim) ?aF ?aO ?aB ?aS ?aL ?_; (case aP => exact k61_mkM _ _ _ (⟨x9_4, x9_4, wrap64 (((rd_T61 l0 x7_2).f2) + (wrap64 (((rd_T61 l0 x7_2).f3) * (wrap64 (x9_4 - ((rd_T61 l0 x7_2).f0)))))), a1⟩ : S61)); (case aB => exact (bG GE442.out)); (case aF => exact (fun k_ hk => Kd.freshB (g := gb442) (o := .cells #[.int .i64 ((rd_T61 l0 x7_2).f0), .int .i64 ((rd_T61 l0 x7_2).f1), .int .i64 ((rd_T61 l0 x7_2).f2), .int .i64 ((rd_T61 l0 x7_2).f3)] 61 (0, 0)) (by (with_reducible repeat (first | refine blk_drewN ?_ _ | refine blk_drew ?_ | refine blk_alloc ?_ _)); exact BK442.out) k_ hk)); (case aO => exact (rA HO_6.out)); (case aS => exact (below_size (bG GE442.out))); (case aL => have := LMc34.out; omega); intro v450 w40 ho hb hg hat; rw [← Ny449.out] at ho; have n0_ := aK (blk_grown (g := gb442) (o := .cells #[.int .i64 ((rd_T61 l0 x7_2).f0), .int .i64 ((rd_T61 l0 x7_2).f1), .int .i64 ((rd_T61 l0 x7_2).f2), .int .i64 ((rd_T61 l0 x7_2).f3)] 61 (0, 0)) (by (with_reducible repeat (first | refine blk_drewN ?_ _ | refine blk_drew ?_ | refine blk_alloc ?_ _)); exact BK442.out) hg (Kd.R_away HO_6.out (fun _ hk => hk))); have n1_ := aK (hb); have n2_ := aK (ho); clear BK442; clear HB; clear HO_6; have BK442 := n0_; have HB := n1_; have HO451 := n2_; clear n0_ n1_ n2_; clear ho hb hg hat; obtain ⟨Ao41, co41, eo41⟩ := Kd.R_slice HO451.out; subst eo41))
            go_roundg k4
            case measure => exact oK
            case rel => exact ⟨(y449), (wrap64 (x9_4 + 1)), gA, H', ⟨oK⟩, ⟨rA HO451.out⟩, ⟨by (with_reducible repeat (first | refine blk_drewN ?_ _ | refine blk_drew ?_ | refine blk_alloc ?_ _)); exact BK442.out⟩, ⟨bG GE442.out⟩⟩
           replace H := qC H;rcases H with ⟨c42, H⟩ | ⟨c42, H⟩
           ·
            have c42b0 : decide (65536 < (x6_4.length : Int)) = true := decide_eq_true c42;have c42b1 : decide (65536 < x6_4.length) = true := decide_eq_true (by omega);clear c42;obtain ⟨rfl, rfl⟩ := qP H;obtain ⟨hcz43_0, hcz43_1, hcz43_2, hcz43_3, hfz43_0, hfz43_1, hfz43_2, hfz43_3⟩ := blk4 BK442.out;obtain ⟨Ao44, co44, eo44⟩ := Kd.R_slice HO_6.out;subst eo44;go_wp2;go_ret2;exact ⟨_, eA, nA, bG GE442.out⟩
           have c42b0 : decide (65536 < (x6_4.length : Int)) = false := decide_eq_false c42;have c42b1 : decide (65536 < x6_4.length) = false := decide_eq_false (by omega);clear c42;have H' := aK H;clear H;obtain ⟨hcz45_0, hcz45_1, hcz45_2, hcz45_3, hfz45_0, hfz45_1, hfz45_2, hfz45_3⟩ := blk4 BK442.out;obtain ⟨Ao46, co46, eo46⟩ := Kd.R_slice HO_6.out;subst eo46;go_wp2;go_roundg k4
           case measure => exact oK
           case rel => exact ⟨(x6_4), (wrap64 (x9_4 + 1)), gA, H', ⟨oK⟩, ⟨rA HO_6.out⟩, ⟨by (with_reducible repeat (first | refine blk_drewN ?_ _ | refine blk_drew ?_ | refine blk_alloc ?_ _)); exact BK442.out⟩, ⟨bG GE442.out⟩⟩
          have H' := aK H;clear H;obtain ⟨hcz47_0, hcz47_1, hcz47_2, hcz47_3, hfz47_0, hfz47_1, hfz47_2, hfz47_3⟩ := blk4 BK442.out;go_wp2;go_roundg k4
          case measure => exact oK
          case rel => exact ⟨(x6_4), (wrap64 (x7_2 + 1)), gA, H', ⟨oK⟩, ⟨rA (Kd.R_mono HO_6.out (fun _ hk => trivial))⟩, ⟨bG GE442.out⟩⟩
     replace H := qC H;rcases H with ⟨c48, H⟩ | ⟨c48, H⟩
     ·
      have c48b0 : decide (65536 < (x6_2.length : Int)) = true := decide_eq_true c48;have c48b1 : decide (65536 < x6_2.length) = true := decide_eq_true (by omega);clear c48;obtain ⟨rfl, rfl⟩ := qP H;obtain ⟨Ao49, co49, eo49⟩ := Kd.R_slice HO_6.out;subst eo49;go_wp2;go_ret2;exact ⟨_, eA, nA, bA⟩
     have c48b0 : decide (65536 < (x6_2.length : Int)) = false := decide_eq_false c48;have c48b1 : decide (65536 < x6_2.length) = false := decide_eq_false (by omega);clear c48;obtain ⟨rfl, rfl⟩ := qP H;obtain ⟨Ao50, co50, eo50⟩ := Kd.R_slice HO_6.out;subst eo50;go_wp2;go_ret2;exact ⟨_, eA, rA HO_6.out, bA⟩
mutual
def r10_Put.j0 : Nat → List (S61) → Int → Bool → Option (ByteArray × Int)
 | 0, _, _, _ => none
 | k + 1, x0, x1, x15 => if x15 = true then (some ((⟨#[]⟩ : ByteArray), 1)) else ((r10_Split.f k x0 (wrap64 (13 - x1))).bind fun bt452 => (if bt452.2 = 0 then ((r03_Bytes.f k x1 2).bind fun t456 => (if t456.size + 2 ≤ 9223372036854775807 then ((r03_Bytes.f k (wrap64 (16 + (wrap64 (12 * (bt452.1.length : Int))))) 4).bind fun t457 => (if (t456 ++ (⟨#[0, 0]⟩ : ByteArray)).size + t457.size ≤ 9223372036854775807 then (if ((t456 ++ (⟨#[0, 0]⟩ : ByteArray)) ++ t457).size + 4 ≤ 9223372036854775807 then ((r03_Bytes.f k (bt452.1.length : Int) 4).bind fun t458 => (if (((t456 ++ (⟨#[0, 0]⟩ : ByteArray)) ++ t457) ++ (⟨#[0, 0, 0, 0]⟩ : ByteArray)).size + t458.size ≤ 9223372036854775807 then (r10_Put.l0 k bt452.1 ((((t456 ++ (⟨#[0, 0]⟩ : ByteArray)) ++ t457) ++ (⟨#[0, 0, 0, 0]⟩ : ByteArray)) ++ t458) 0) else (none))) else (none)) else (none))) else (none))) else (some ((⟨#[]⟩ : ByteArray), bt452.2))))
def r10_Put.l0 : Nat → List (S61) → ByteArray → Int → Option (ByteArray × Int)
 | 0, _, _, _ => none
 | k + 1, x6, x8, x9 => if x9 < (x6.length : Int) then (if 0 ≤ x9 then ((r03_Bytes.f k ((rd_T61 x6 x9).f0) 4).bind fun t460 => (if x8.size + t460.size ≤ 9223372036854775807 then ((r03_Bytes.f k ((rd_T61 x6 x9).f1) 4).bind fun t462 => (if (x8 ++ t460).size + t462.size ≤ 9223372036854775807 then ((r03_Bytes.f k ((rd_T61 x6 x9).f2) 4).bind fun t464 => (if ((x8 ++ t460) ++ t462).size + t464.size ≤ 9223372036854775807 then (r10_Put.l0 k x6 (((x8 ++ t460) ++ t462) ++ t464) (wrap64 (x9 + 1))) else (none))) else (none))) else (none))) else (none)) else (some (x8, 0))
end
def r10_Put.f (k : Nat) (l0 : List (S61)) (a1 : Int) : Option (ByteArray × Int) := if a1 = 12 then (r10_Put.j0 k l0 a1 false) else (r10_Put.j0 k l0 a1 (a1 != 13))
def r10_Put.T10 : Bool × List (List Nat × List Nat) := (true, [([], []), ([], []), ([], []), ([1, 2], [1, 2]), ([3], [3]), ([4], [4]), ([5], [5]), ([0, 6], [0, 6]), ([], []), ([], []), ([8, 9], [8, 9]), ([10], [10]), ([11], [11]), ([12, 6], [12]), ([7, 13], [7, 13]), ([], []), ([], []), ([15, 16], [15, 16]), ([17], [17]), ([18], [18]), ([19, 13], [19]), ([14, 20], [14, 20]), ([21, 20, 0, 1, 2, 3, 4, 5, 6, 7, 8, 9, 10, 11, 12, 13, 14, 15, 16, 17, 18, 19, 20, 21], [0, 21])])
def r10_Put.B10 : List Nat := [0, 0, 0, 6, 14, 30, 62, 127, 0, 0, 768, 1792, 3840, 8062, 16383, 0, 0, 98304, 229376, 491520, 1032062, 2097151, 4194303]
theorem r10_Put.tab10 : rtab .any (opsOf Tryz.f66 10) = r10_Put.T10 := by kernel_rfl
theorem r10_Put.bits10 : waitsOk r10_Put.T10.2 r10_Put.B10 = true := by kernel_rfl
theorem r10_Put.calls (k : Nat) (A0 : Option Addr) (c0 : Nat) (l0 : List (S61)) (a1 : Int) (r1 : ByteArray) (r2 : Int) (w : World) (hr0 : Kd.C k61 w A0 l0.length l0) (hc0 : l0.length ≤ c0) (h : r10_Put.f k l0 a1 = some (r1, r2)) :
  Calls Tryz.prog 66 #[.slice A0 l0.length c0, .int .i64 a1] w fun e w' => e = .returned (.tuple #[.string r1, .int .i64 r2]) ∧ Below w.heap.size w w' := by
 have HR0 := aK hr0;have HC0 := aK hc0;clear hr0 hc0;have HB := aK (Below.refl w.heap.size w);have H : (if a1 = 12 then (r10_Put.j0 k l0 a1 false) else (r10_Put.j0 k l0 a1 (a1 != 13))) = some (r1, r2) := h;clear h;have HC3 := aK H;clear H;go_enter Tryz.func66, Tryz.ntmps66;go_upto_region 1 with (fail)
 go_cut [15] (fun v15 wc => ∃ (kq : Nat) (x15_2 : Bool), v15 = .bool x15_2 ∧ Aside0 (r10_Put.j0 kq l0 a1 x15_2 = some (r1, r2)) ∧ Aside0 (kq ≤ k) ∧ Aside0 (Below w.heap.size w wc))
 case first =>
  have H := HC3.out;clear HC3;replace H := qF H;rcases H with ⟨c4b0, c4b1, H⟩ | ⟨c4b0, c4b1, H⟩
  ·
   (first | rw [c4b0] | (simp only [i64_w, i32_w]; rw [c4b0]) | skip)
   have H' := aK H;clear H;go_wp2;go_meet
   case rel => exact ⟨_, (false), gA, H', ⟨oK⟩, ⟨bA⟩⟩
  (first | rw [c4b0] | (simp only [i64_w, i32_w]; rw [c4b0]) | skip)
  have H' := aK H;clear H;go_wp2;go_meet
  case rel => exact ⟨_, ((a1 != 13)), gA, H', ⟨oK⟩, ⟨bA⟩⟩
 case rest =>
  clear HC3;obtain ⟨kq, x15_2, rfl, HA, HJ2, HB⟩ := hcut;cases kq with
  | zero => exact absurd HA.out (by simp [r10_Put.j0])
  | succ kj2 =>
   have H := HA.out;clear HA;simp only [r10_Put.j0] at H;replace H := qB H;rcases H with ⟨rfl, H⟩ | ⟨rfl, H⟩
   ·
    obtain ⟨rfl, rfl⟩ := qP H;go_wp2;go_ret2;exact ⟨eA, bA⟩
   replace H := qS H;obtain ⟨⟨t452, t453⟩, A6, H⟩ := H;try dsimp only at H
   replace H := qF H;rcases H with ⟨c7b0, c7b1, H⟩ | ⟨c7b0, c7b1, H⟩
   ·
    replace H := qS H;obtain ⟨t456, A8, H⟩ := H;replace H := nD H;obtain ⟨c9, c9b0, c9b1, H⟩ := H;try have c9b2 : (9223372036854775807 < t456.size + 2) = False := eq_false (Nat.not_lt.2 c9)
    replace H := qS H;obtain ⟨t457, A10, H⟩ := H;replace H := nD H;obtain ⟨c11, c11b0, c11b1, H⟩ := H;try have c11b2 : (9223372036854775807 < (t456 ++ (⟨#[0, 0]⟩ : ByteArray)).size + t457.size) = False := eq_false (Nat.not_lt.2 c11)
    try (have c11b3 := c11b2; simp only [ByteArray.size_append, bs2, bs4, bs8] at c11b3)
    replace H := nD H;obtain ⟨c12, c12b0, c12b1, H⟩ := H;try have c12b2 : (9223372036854775807 < ((t456 ++ (⟨#[0, 0]⟩ : ByteArray)) ++ t457).size + 4) = False := eq_false (Nat.not_lt.2 c12)
    try (have c12b3 := c12b2; simp only [ByteArray.size_append, bs2, bs4, bs8] at c12b3)
    replace H := qS H;obtain ⟨t458, A13, H⟩ := H;replace H := nD H;obtain ⟨c14, c14b0, c14b1, H⟩ := H;try have c14b2 : (9223372036854775807 < (((t456 ++ (⟨#[0, 0]⟩ : ByteArray)) ++ t457) ++ (⟨#[0, 0, 0, 0]⟩ : ByteArray)).size + t458.size) = False := eq_false (Nat.not_lt.2 c14)
    try (have c14b3 := c14b2; simp only [ByteArray.size_append, bs2, bs4, bs8] at c14b3)
    have H' := aK H;clear H;go_wp2_with (first | ((with_reducible refine gate_callee (f := 98) rfl ?_); refine gL_ 20 Tryz.func98 #[.slice A0 l0.length c0, .int .i64 (wrap64 (13 - a1))] ?_; (with_reducible refine (r10_Split.calls kj2 _ _ l0 (wrap64 (13 - a1)) t452 t453 _ ?side1 ?side2 A6.out).mono ?_); (case side1 => exact cB HR0.out); (case side2 => exact HC0.out); rintro e w15 ⟨v454, rfl, ho0, hb⟩; refine ⟨_, rfl, ?_⟩; have HO455 := aK (Kd.R_lower ho0 (below_size bA)); replace HB := aK (below_step bA hb); (try clear hb ho0)) | ((with_reducible refine gate_callee (f := 94) rfl ?_); refine gB_ 27 Tryz.func94 (r03_Bytes.calls kj2 a1 2 t456 _ A8.out) ?_; clear HB; intro w16 hb HB; replace HO455 := aK (Kd.R_below (rA HO455.out) hb); clear hb; obtain ⟨Ao17, co17, eo17⟩ := Kd.R_slice HO455.out; subst eo17) | ((with_reducible refine gate_callee (f := 94) rfl ?_); refine gB_ 33 Tryz.func94 (r03_Bytes.calls kj2 (wrap64 (16 + (wrap64 (12 * (t452.length : Int))))) 4 t457 _ A10.out) ?_; clear HB; intro w18 hb HB; replace HO455 := aK (Kd.R_below (rA HO455.out) hb); clear hb) | ((with_reducible refine gate_callee (f := 94) rfl ?_); refine gB_ 38 Tryz.func94 (r03_Bytes.calls kj2 (t452.length : Int) 4 t458 _ A13.out) ?_; clear HB; intro w19 hb HB; replace HO455 := aK (Kd.R_below (rA HO455.out) hb); clear hb))
    go_loopg [8, 9] kj2 (fun kq v8 v9 w' => ∃ (x8_2 : ByteArray) (x9_2 : Int), v8 = .string x8_2 ∧ v9 = .int .i64 x9_2 ∧ Aside0 (r10_Put.l0 kq t452 x8_2 x9_2 = some (r1, r2)) ∧ Aside0 (kq ≤ kj2) ∧ Aside0 (Kd.R k61 61 w' w.heap.size (fun _ => True) (.slice Ao17 t452.length co17) t452) ∧ Aside0 (Below w.heap.size w w'))
    case atStart => exact ⟨((((t456 ++ (⟨#[0, 0]⟩ : ByteArray)) ++ t457) ++ (⟨#[0, 0, 0, 0]⟩ : ByteArray)) ++ t458), (0), gA, gA, H', ⟨Nat.le_refl _⟩, ⟨rA HO455.out⟩, ⟨bA⟩⟩
    case round =>
     clear H';obtain ⟨x8_2, x9_2, rfl, rfl, HA, HK2, HO_6, HB⟩ := hrel;cases gk with
     | zero => exact absurd HA.out (by simp [r10_Put.l0])
     | succ k2 =>
      have H := HA.out;clear HA;simp only [r10_Put.l0] at H;replace H := qL H;rcases H with ⟨c20b0, H⟩ | ⟨c20b0, H⟩
      ·
       replace H := nL H;obtain ⟨c21b0, H⟩ := H;replace H := qS H;obtain ⟨t460, A22, H⟩ := H;replace H := nD H;obtain ⟨c23, c23b0, c23b1, H⟩ := H;try have c23b2 : (9223372036854775807 < x8_2.size + t460.size) = False := eq_false (Nat.not_lt.2 c23)
       replace H := qS H;obtain ⟨t462, A24, H⟩ := H;replace H := nD H;obtain ⟨c25, c25b0, c25b1, H⟩ := H;try have c25b2 : (9223372036854775807 < (x8_2 ++ t460).size + t462.size) = False := eq_false (Nat.not_lt.2 c25)
       try (have c25b3 := c25b2; simp only [ByteArray.size_append, bs2, bs4, bs8] at c25b3)
       replace H := qS H;obtain ⟨t464, A26, H⟩ := H;replace H := nD H;obtain ⟨c27, c27b0, c27b1, H⟩ := H;try have c27b2 : (9223372036854775807 < ((x8_2 ++ t460) ++ t462).size + t464.size) = False := eq_false (Nat.not_lt.2 c27)
       try (have c27b3 := c27b2; simp only [ByteArray.size_append, bs2, bs4, bs8] at c27b3)
       have H' := aK H;clear H;try go_wp2
       have n0_ := aK (Kd.R_drew HO_6.out);have n1_ := aK (below_drew1 HB.out);clear HO_6;clear HB;have HO_6 := n0_;have HB := n1_;clear n0_ n1_;obtain ⟨p459, q459, ad459, e459, hx459_0, hx459_1, hx459_2, hx459_3⟩ := aT (at_T61 (Kd.R_reads' HO_6.out).2.2 x9_2);cases e459
       obtain ⟨p461, q461, ad461, e461, hx461_0, hx461_1, hx461_2, hx461_3⟩ := aT (at_T61 (Kd.R_reads' HO_6.out).2.2 x9_2);obtain rfl : ad459 = ad461 := (by injection e461);obtain ⟨p463, q463, ad463, e463, hx463_0, hx463_1, hx463_2, hx463_3⟩ := aT (at_T61 (Kd.R_reads' HO_6.out).2.2 x9_2);obtain rfl : ad459 = ad463 := (by injection e463);refine bg_ 23 (fun w' => w'.cell? (ad459.add ((x9_2).toNat * 4)) = some (.int .i64 ((rd_T61 t452 x9_2).f0)) ∧ w'.cell? ⟨(ad459.add ((x9_2).toNat * 4)).block, (ad459.add ((x9_2).toNat * 4)).off + 1, none⟩ = some (.int .i64 ((rd_T61 t452 x9_2).f1)) ∧ w'.cell? ⟨(ad459.add ((x9_2).toNat * 4)).block, (ad459.add ((x9_2).toNat * 4)).off + 2, none⟩ = some (.int .i64 ((rd_T61 t452 x9_2).f2)) ∧ w'.cell? ⟨(ad459.add ((x9_2).toNat * 4)).block, (ad459.add ((x9_2).toNat * 4)).off + 3, none⟩ = some (.int .i64 ((rd_T61 t452 x9_2).f3)) ∧ w'.cell? (ad459.add ((x9_2).toNat * 4)) = some (.int .i64 ((rd_T61 t452 x9_2).f0)) ∧ w'.cell? ⟨(ad459.add ((x9_2).toNat * 4)).block, (ad459.add ((x9_2).toNat * 4)).off + 1, none⟩ = some (.int .i64 ((rd_T61 t452 x9_2).f1)) ∧ w'.cell? ⟨(ad459.add ((x9_2).toNat * 4)).block, (ad459.add ((x9_2).toNat * 4)).off + 2, none⟩ = some (.int .i64 ((rd_T61 t452 x9_2).f2)) ∧ w'.cell? ⟨(ad459.add ((x9_2).toNat * 4)).block, (ad459.add ((x9_2).toNat * 4)).off + 3, none⟩ = some (.int .i64 ((rd_T61 t452 x9_2).f3)) ∧ w'.cell? (ad459.add ((x9_2).toNat * 4)) = some (.int .i64 ((rd_T61 t452 x9_2).f0)) ∧ w'.cell? ⟨(ad459.add ((x9_2).toNat * 4)).block, (ad459.add ((x9_2).toNat * 4)).off + 1, none⟩ = some (.int .i64 ((rd_T61 t452 x9_2).f1)) ∧ w'.cell? ⟨(ad459.add ((x9_2).toNat * 4)).block, (ad459.add ((x9_2).toNat * 4)).off + 2, none⟩ = some (.int .i64 ((rd_T61 t452 x9_2).f2)) ∧ w'.cell? ⟨(ad459.add ((x9_2).toNat * 4)).block, (ad459.add ((x9_2).toNat * 4)).off + 3, none⟩ = some (.int .i64 ((rd_T61 t452 x9_2).f3))) ⟨hx459_0, hx459_1, hx459_2, hx459_3, hx461_0, hx461_1, hx461_2, hx461_3, hx463_0, hx463_1, hx463_2, hx463_3⟩ (fun hHeld => ?_); refine with_tabW r10_Put.tab10 r10_Put.bits10 (fun HT_ HW_ => ?_);generalize wr.drew = w28 at HO_6 HB hx459_0 hx459_1 hx459_2 hx459_3 hx461_0 hx461_1 hx461_2 hx461_3 hx463_0 hx463_1 hx463_2 hx463_3 hHeld ⊢
       refine pT_ HT_.out 0 46 ?_;refine pT_ HT_.out 1 47 ?_;refine pT_ HT_.out 2 48 ?_;refine pT_ HT_.out 3 49 ?_;refine pT_ HT_.out 4 50 ?_;refine pT_ HT_.out 8 54 ?_;refine pT_ HT_.out 9 55 ?_;refine pT_ HT_.out 10 56 ?_;refine pT_ HT_.out 11 57 ?_;refine pT_ HT_.out 15 61 ?_;refine pT_ HT_.out 16 62 ?_;refine pT_ HT_.out 17 63 ?_;refine pT_ HT_.out 18 64 ?_;refine tW_ HT_.out HW_.out 5 51 hHeld ?_;refine tW_ HT_.out HW_.out 12 58 hHeld ?_;refine tW_ HT_.out HW_.out 19 65 hHeld ?_;refine oT_ 6 52 HT_.out (fun K hK => ?_);refine goes_ Tryz.func94 (by kernel_rfl) rfl #[.int .i64 ((rd_T61 t452 x9_2).f0), .int .i64 4] (by rfl) rfl rfl aA ?_;with_reducible refine (r03_Bytes.calls k2 ((rd_T61 t452 x9_2).f0) 4 t460 _ A22.out).mono ?_
       rintro e w29 ⟨rfl, hb⟩;have HS0_ := kM hb (hHeld.1);have HS1_ := kM hb (hHeld.2.1);have HS2_ := kM hb (hHeld.2.2.1);have HS3_ := kM hb (hHeld.2.2.2.1);have HS4_ := kM hb (hHeld.2.2.2.2.1);have HS5_ := kM hb (hHeld.2.2.2.2.2.1);have HS6_ := kM hb (hHeld.2.2.2.2.2.2.1);have HS7_ := kM hb (hHeld.2.2.2.2.2.2.2.1);have HS8_ := kM hb (hHeld.2.2.2.2.2.2.2.2.1);have HS9_ := kM hb (hHeld.2.2.2.2.2.2.2.2.2.1);have HS10_ := kM hb (hHeld.2.2.2.2.2.2.2.2.2.2.1);have HS11_ := kM hb (hHeld.2.2.2.2.2.2.2.2.2.2.2);refine ⟨_, rfl, ?_⟩;have n0_ := aK (Kd.R_below (rA HO_6.out) hb);have n1_ := aK (below_step bA hb);clear HO_6;clear HB;have HO_6 := n0_;have HB := n1_;clear n0_ n1_
       (try clear hb)
       refine hK.out _ _ ⟨HS0_, HS1_, HS2_, HS3_, HS4_, HS5_, HS6_, HS7_, HS8_, HS9_, HS10_, HS11_⟩ (fun hHeld => ?_);clear hK K;refine nS_ ?_;refine pT_ HT_.out 7 53 ?_;refine oT_ 13 59 HT_.out (fun K hK => ?_);refine goes_ Tryz.func94 (by kernel_rfl) rfl #[.int .i64 ((rd_T61 t452 x9_2).f1), .int .i64 4] (by rfl) rfl rfl aA ?_;with_reducible refine (r03_Bytes.calls k2 ((rd_T61 t452 x9_2).f1) 4 t462 _ A24.out).mono ?_
       rintro e w30 ⟨rfl, hb⟩;have HS0_ := kM hb (hHeld.1);have HS1_ := kM hb (hHeld.2.1);have HS2_ := kM hb (hHeld.2.2.1);have HS3_ := kM hb (hHeld.2.2.2.1);have HS4_ := kM hb (hHeld.2.2.2.2.1);have HS5_ := kM hb (hHeld.2.2.2.2.2.1);have HS6_ := kM hb (hHeld.2.2.2.2.2.2.1);have HS7_ := kM hb (hHeld.2.2.2.2.2.2.2.1);have HS8_ := kM hb (hHeld.2.2.2.2.2.2.2.2.1);have HS9_ := kM hb (hHeld.2.2.2.2.2.2.2.2.2.1);have HS10_ := kM hb (hHeld.2.2.2.2.2.2.2.2.2.2.1);have HS11_ := kM hb (hHeld.2.2.2.2.2.2.2.2.2.2.2);refine ⟨_, rfl, ?_⟩;have n0_ := aK (Kd.R_below (rA HO_6.out) hb);have n1_ := aK (below_step bA hb);clear HO_6;clear HB;have HO_6 := n0_;have HB := n1_;clear n0_ n1_
       (try clear hb)
       refine hK.out _ _ ⟨HS0_, HS1_, HS2_, HS3_, HS4_, HS5_, HS6_, HS7_, HS8_, HS9_, HS10_, HS11_⟩ (fun hHeld => ?_);clear hK K;refine nS_ ?_;refine pT_ HT_.out 14 60 ?_;refine oT_ 20 66 HT_.out (fun K hK => ?_);refine goes_ Tryz.func94 (by kernel_rfl) rfl #[.int .i64 ((rd_T61 t452 x9_2).f2), .int .i64 4] (by rfl) rfl rfl aA ?_;with_reducible refine (r03_Bytes.calls k2 ((rd_T61 t452 x9_2).f2) 4 t464 _ A26.out).mono ?_
       rintro e w31 ⟨rfl, hb⟩;have HS0_ := kM hb (hHeld.1);have HS1_ := kM hb (hHeld.2.1);have HS2_ := kM hb (hHeld.2.2.1);have HS3_ := kM hb (hHeld.2.2.2.1);have HS4_ := kM hb (hHeld.2.2.2.2.1);have HS5_ := kM hb (hHeld.2.2.2.2.2.1);have HS6_ := kM hb (hHeld.2.2.2.2.2.2.1);have HS7_ := kM hb (hHeld.2.2.2.2.2.2.2.1);have HS8_ := kM hb (hHeld.2.2.2.2.2.2.2.2.1);have HS9_ := kM hb (hHeld.2.2.2.2.2.2.2.2.2.1);have HS10_ := kM hb (hHeld.2.2.2.2.2.2.2.2.2.2.1);have HS11_ := kM hb (hHeld.2.2.2.2.2.2.2.2.2.2.2);refine ⟨_, rfl, ?_⟩;have n0_ := aK (Kd.R_below (rA HO_6.out) hb);have n1_ := aK (below_step bA hb);clear HO_6;clear HB;have HO_6 := n0_;have HB := n1_;clear n0_ n1_
       (try clear hb)
       refine hK.out _ _ ⟨HS0_, HS1_, HS2_, HS3_, HS4_, HS5_, HS6_, HS7_, HS8_, HS9_, HS10_, HS11_⟩ (fun hHeld => ?_);clear hK K;refine nS_ ?_;refine pT_ HT_.out 21 67 ?_;refine pT_ HT_.out 22 8 ?_;refine done_ (done_of HT_.out (by kernel_rfl)) ?_;try go_wp2
       go_roundg k2
       case measure => exact oK
       case rel => exact ⟨(((x8_2 ++ t460) ++ t462) ++ t464), (wrap64 (x9_2 + 1)), gA, gA, H', ⟨oK⟩, ⟨rA HO_6.out⟩, ⟨bA⟩⟩
      obtain ⟨rfl, rfl⟩ := qP H;go_wp2;go_ret2;exact ⟨eA, bA⟩
   obtain ⟨rfl, rfl⟩ := qP H;go_wp2_with (first | ((with_reducible refine gate_callee (f := 98) rfl ?_); refine gL_ 20 Tryz.func98 #[.slice A0 l0.length c0, .int .i64 (wrap64 (13 - a1))] ?_; (with_reducible refine (r10_Split.calls kj2 _ _ l0 (wrap64 (13 - a1)) t452 t453 _ ?side1 ?side2 A6.out).mono ?_); (case side1 => exact cB HR0.out); (case side2 => exact HC0.out); rintro e w32 ⟨v454, rfl, ho0, hb⟩; refine ⟨_, rfl, ?_⟩; have HO455 := aK (Kd.R_lower ho0 (below_size bA)); replace HB := aK (below_step bA hb); (try clear hb ho0)))
   go_ret2;exact ⟨eA, bA⟩
def r11_Short.f (k : Nat) (l0 : List (S61)) : Option (Bool) := (r08_Short.f k l0).bind fun t124 => (if t124 = true then ((r09_Short.f k l0).bind fun t125 => (if t125 = true then ((r10_Short.f k l0).bind fun t126 => (some t126)) else (some false))) else (some false))
theorem r11_Short.calls (k : Nat) (A0 : Option Addr) (c0 : Nat) (l0 : List (S61)) (r : Bool) (w : World) (hr0 : Kd.C k61 w A0 l0.length l0) (hc0 : l0.length ≤ c0) (h : r11_Short.f k l0 = some r) :
  Calls Tryz.prog 4 #[.slice A0 l0.length c0] w fun e w' => e = .returned (.bool r) ∧ Below w.heap.size w w' := by
 have HR0 := aK hr0;have HC0 := aK hc0;clear hr0 hc0;have HB := aK (Below.refl w.heap.size w);have H : ((r08_Short.f k l0).bind fun t124 => (if t124 = true then ((r09_Short.f k l0).bind fun t125 => (if t125 = true then ((r10_Short.f k l0).bind fun t126 => (some t126)) else (some false))) else (some false))) = some r := h;clear h;replace H := qS H;obtain ⟨t124, A2, H⟩ := H;replace H := qB H;rcases H with ⟨rfl, H⟩ | ⟨rfl, H⟩
 ·
  replace H := qS H;obtain ⟨t125, A4, H⟩ := H;replace H := qB H;rcases H with ⟨rfl, H⟩ | ⟨rfl, H⟩
  ·
   replace H := qS H;obtain ⟨t126, A6, H⟩ := H;obtain rfl := Option.some.inj H;go_enter Tryz.func4, Tryz.ntmps4;go_wp2_with (first | ((with_reducible refine gate_callee (f := 17) rfl ?_); refine gB_ 4 Tryz.func17 (r08_Short.calls k _ _ l0 true _ ?side1 ?side2 A2.out) ?_; (case side1 => exact cA HR0.out); (case side2 => exact HC0.out); clear HB; intro w7 hb HB; clear hb) | (go_at_call 18; (with_reducible refine (r09_Short.calls k _ _ l0 true _ ?side1 ?side2 A4.out).mono ?_); (case side1 => exact cB HR0.out); (case side2 => exact HC0.out); rintro e w' ⟨rfl, ⟨nd, rfl⟩⟩) | (go_at_call 19; (with_reducible refine (r10_Short.calls k _ _ l0 t126 _ ?side1 ?side2 A6.out).mono ?_); (case side1 => repeat (first | exact (Kd.C_below HR0.out bA) | (with_reducible refine Kd.C_alloc ?_ _) | (with_reducible refine Kd.C_drewN ?_ _) | (with_reducible refine Kd.C_drew ?_))); (case side2 => exact HC0.out); rintro e w' ⟨rfl, ⟨nd, rfl⟩⟩))
   go_ret;exact ⟨eA, bA⟩
  obtain rfl := Option.some.inj H;go_enter Tryz.func4, Tryz.ntmps4;go_wp2_with (first | ((with_reducible refine gate_callee (f := 17) rfl ?_); refine gB_ 4 Tryz.func17 (r08_Short.calls k _ _ l0 true _ ?side1 ?side2 A2.out) ?_; (case side1 => exact cA HR0.out); (case side2 => exact HC0.out); clear HB; intro w8 hb HB; clear hb) | (go_at_call 18; (with_reducible refine (r09_Short.calls k _ _ l0 false _ ?side1 ?side2 A4.out).mono ?_); (case side1 => exact cB HR0.out); (case side2 => exact HC0.out); rintro e w' ⟨rfl, ⟨nd, rfl⟩⟩))
  go_ret;exact ⟨eA, bA⟩
 obtain rfl := Option.some.inj H;go_enter Tryz.func4, Tryz.ntmps4;go_wp2_with (first | ((with_reducible refine gate_callee (f := 17) rfl ?_); refine gB_ 4 Tryz.func17 (r08_Short.calls k _ _ l0 false _ ?side1 ?side2 A2.out) ?_; (case side1 => exact cA HR0.out); (case side2 => exact HC0.out); clear HB; intro w9 hb HB; clear hb))
 go_ret;exact ⟨eA, bA⟩
def r11_Read.j0 : Nat → ByteArray → Int → Bool → Option ((List (S61)) × Int)
 | 0, _, _, _ => none
 | k + 1, x0, x15, x16 => if x16 = true then ((r08_Get.f k x0).bind fun bt300 => (some (bt300.1, bt300.2))) else (if x15 = 4 then ((r09_Get.f k x0).bind fun bt304 => (some (bt304.1, bt304.2))) else (if x15 = 12 then ((r10_Get.f k x0).bind fun bt308 => (some (bt308.1, bt308.2))) else (if x15 = 13 then ((r10_Get.f k x0).bind fun bt312 => (some (bt312.1, bt312.2))) else (some (([] : List (S61)), 5)))))
def r11_Read.f (k : Nat) (a0 : ByteArray) : Option ((List (S61)) × Int) := if (a0.size : Int) < 2 then (some (([] : List (S61)), 4)) else (if 0 ≤ 2 then (if 2 ≤ (a0.size : Int) then ((r03_One.f k (a0.extract 0 2) 2).bind fun t299 => (if t299 = 0 then (r11_Read.j0 k a0 t299 (t299 == 0)) else (r11_Read.j0 k a0 t299 (t299 == 6)))) else (none)) else (none))
theorem r11_Read.calls (k : Nat) (a0 : ByteArray) (r1 : List (S61)) (r2 : Int) (w : World) (h : r11_Read.f k a0 = some (r1, r2)) :
  Calls Tryz.prog 8 #[.string a0] w fun e w' => ∃ v0_ : Value, e = .returned (.tuple #[v0_, .int .i64 r2]) ∧ Kd.R k61 61 w' w.heap.size (fun _ => True) v0_ r1 ∧ Below w.heap.size w w' := by
 have HB := aK (Below.refl w.heap.size w);have H : (if (a0.size : Int) < 2 then (some (([] : List (S61)), 4)) else (if 0 ≤ 2 then (if 2 ≤ (a0.size : Int) then ((r03_One.f k (a0.extract 0 2) 2).bind fun t299 => (if t299 = 0 then (r11_Read.j0 k a0 t299 (t299 == 0)) else (r11_Read.j0 k a0 t299 (t299 == 6)))) else (none)) else (none))) = some (r1, r2) := h;clear h;replace H := qC H;rcases H with ⟨c2, H⟩ | ⟨c2, H⟩
 ·
  have c2b0 : decide ((a0.size : Int) < 2) = true := decide_eq_true c2;have c2b1 : decide (a0.size < 2) = true := decide_eq_true (by omega);clear c2;obtain ⟨rfl, rfl⟩ := qP H;go_enter Tryz.func8, Tryz.ntmps8;go_wp2;go_ret2;exact ⟨_, eA, nA, bA⟩
 have c2b0 : decide ((a0.size : Int) < 2) = false := decide_eq_false c2;have c2b1 : decide (a0.size < 2) = false := decide_eq_false (by omega);clear c2;replace H := nD H;obtain ⟨c3, c3b0, c3b1, H⟩ := H;clear c3;replace H := nD H;obtain ⟨c4, c4b0, c4b1, H⟩ := H;clear c4;replace H := qS H;obtain ⟨t299, A5, H⟩ := H;have HC6 := aK H;clear H;go_enter Tryz.func8, Tryz.ntmps8;go_upto_if 16 with (first | ((with_reducible refine gate_callee (f := 26) rfl ?_); refine gD_ 15 Tryz.func26 (r03_One.calls k (a0.extract 0 2) 2 t299 _ A5.out) ?_; intro nd))
 (try simp only [Act.put, List.setIfInBounds_toArray, List.set_cons_zero, List.set_cons_succ])
 go_cut [16] (fun v16 wc => ∃ (kq : Nat) (x16_5 : Bool), v16 = .bool x16_5 ∧ Aside0 (r11_Read.j0 kq a0 t299 x16_5 = some (r1, r2)) ∧ Aside0 (kq ≤ k) ∧ Aside0 (Below w.heap.size w wc))
 case first =>
  have H := HC6.out;clear HC6;replace H := qF H;rcases H with ⟨c7b0, c7b1, H⟩ | ⟨c7b0, c7b1, H⟩
  ·
   (first | rw [c7b0] | (simp only [i64_w, i32_w]; rw [c7b0]) | skip)
   have H' := aK H;clear H;go_wp2;go_meet
   case rel => exact ⟨_, ((t299 == 0)), gA, H', ⟨oK⟩, ⟨bA⟩⟩
  (first | rw [c7b0] | (simp only [i64_w, i32_w]; rw [c7b0]) | skip)
  have H' := aK H;clear H;go_wp2;go_meet
  case rel => exact ⟨_, ((t299 == 6)), gA, H', ⟨oK⟩, ⟨bA⟩⟩
 case rest =>
  clear HC6;obtain ⟨kq, x16_5, rfl, HA, HJ5, HB⟩ := hcut;cases kq with
  | zero => exact absurd HA.out (by simp [r11_Read.j0])
  | succ kj5 =>
   have H := HA.out;clear HA;simp only [r11_Read.j0] at H;replace H := qB H;rcases H with ⟨rfl, H⟩ | ⟨rfl, H⟩
   ·
    replace H := qS H;obtain ⟨⟨t300, t301⟩, A9, H⟩ := H;try dsimp only at H
    obtain ⟨rfl, rfl⟩ := qP H;go_wp2_with (first | ((with_reducible refine gate_callee (f := 28) rfl ?_); refine gL_ 21 Tryz.func28 #[.string a0] ?_; (with_reducible refine (r08_Get.calls kj5 a0 t300 t301 _ A9.out).mono ?_); rintro e w10 ⟨v302, rfl, ho0, hb⟩; refine ⟨_, rfl, ?_⟩; have HO303 := aK (Kd.R_lower ho0 (below_size bA)); replace HB := aK (below_step bA hb); (try clear hb ho0)))
    go_ret2;exact ⟨_, eA, rA HO303.out, bA⟩
   replace H := qF H;rcases H with ⟨c11b0, c11b1, H⟩ | ⟨c11b0, c11b1, H⟩
   ·
    replace H := qS H;obtain ⟨⟨t304, t305⟩, A12, H⟩ := H;try dsimp only at H
    obtain ⟨rfl, rfl⟩ := qP H;go_wp2_with (first | ((with_reducible refine gate_callee (f := 29) rfl ?_); refine gL_ 30 Tryz.func29 #[.string a0] ?_; (with_reducible refine (r09_Get.calls kj5 a0 t304 t305 _ A12.out).mono ?_); rintro e w13 ⟨v306, rfl, ho0, hb⟩; refine ⟨_, rfl, ?_⟩; have HO307 := aK (Kd.R_lower ho0 (below_size bA)); replace HB := aK (below_step bA hb); (try clear hb ho0)))
    go_ret2;exact ⟨_, eA, rA HO307.out, bA⟩
   replace H := qF H;rcases H with ⟨c14b0, c14b1, H⟩ | ⟨c14b0, c14b1, H⟩
   ·
    replace H := qS H;obtain ⟨⟨t308, t309⟩, A15, H⟩ := H;try dsimp only at H
    obtain ⟨rfl, rfl⟩ := qP H;go_wp2_with (first | ((with_reducible refine gate_callee (f := 30) rfl ?_); refine gL_ 40 Tryz.func30 #[.string a0] ?_; (with_reducible refine (r10_Get.calls kj5 a0 t308 t309 _ A15.out).mono ?_); rintro e w16 ⟨v310, rfl, ho0, hb⟩; refine ⟨_, rfl, ?_⟩; have HO311 := aK (Kd.R_lower ho0 (below_size bA)); replace HB := aK (below_step bA hb); (try clear hb ho0)))
    go_ret2;exact ⟨_, eA, rA HO311.out, bA⟩
   replace H := qF H;rcases H with ⟨c17b0, c17b1, H⟩ | ⟨c17b0, c17b1, H⟩
   ·
    replace H := qS H;obtain ⟨⟨t312, t313⟩, A18, H⟩ := H;try dsimp only at H
    obtain ⟨rfl, rfl⟩ := qP H;go_wp2_with (first | ((with_reducible refine gate_callee (f := 30) rfl ?_); refine gL_ 40 Tryz.func30 #[.string a0] ?_; (with_reducible refine (r10_Get.calls kj5 a0 t312 t313 _ A18.out).mono ?_); rintro e w19 ⟨v314, rfl, ho0, hb⟩; refine ⟨_, rfl, ?_⟩; have HO315 := aK (Kd.R_lower ho0 (below_size bA)); replace HB := aK (below_step bA hb); (try clear hb ho0)))
    go_ret2;exact ⟨_, eA, rA HO315.out, bA⟩
   obtain ⟨rfl, rfl⟩ := qP H;go_wp2;go_ret2;exact ⟨_, eA, nA, bA⟩
def r11_Best.l0 : Nat → Int → Int → List (List Int) → Int → Option (Int)
 | 0, _, _, _, _ => none
 | k + 1, x0, x1, x5, x6 => if x6 < (x5.length : Int) then (if 0 ≤ x6 then (if 0 < ((rd_L3 x5 x6).length : Int) then (if (rd (rd_L3 x5 x6) 0) = x0 then (if 1 < ((rd_L3 x5 x6).length : Int) then (if (rd (rd_L3 x5 x6) 1) = x1 then (some (wrap64 (x6 + 1))) else (r11_Best.l0 k x0 x1 x5 (wrap64 (x6 + 1)))) else (none)) else (r11_Best.l0 k x0 x1 x5 (wrap64 (x6 + 1)))) else (none)) else (none)) else (some 0)
def r11_Best.f (k : Nat) (a0 : Int) (a1 : Int) : Option (Int) := r11_Best.l0 k a0 a1 (([(([1, 0] : List Int)), (([0, 0] : List Int)), (([0, 1] : List Int)), (([0, 2] : List Int)), (([0, 3] : List Int)), (([3, 1] : List Int)), (([0, 4] : List Int)), (([0, 6] : List Int)), (([3, 10] : List Int))] : List (List Int))) 0
def ninL : List (List Int) := [[1, 0], [0, 0], [0, 1], [0, 2], [0, 3], [3, 1], [0, 4], [0, 6], [3, 10]]
def ninA (i : Nat) : Int := rd (rd_L3 ninL (i : Int)) 0
def ninB (i : Nat) : Int := rd (rd_L3 ninL (i : Int)) 1
theorem nin_len : ∀ i : Fin 9, (rd_L3 ninL ((i.1 : Nat) : Int)).length = 2 := by decide
theorem rbest_nin (k i : Nat) (p q : Int) (hi : i < 9) : r11_Best.l0 (k + 1) p q ninL (i : Int) = if ninA i = p ∧ ninB i = q then some (((i + 1 : Nat) : Int)) else r11_Best.l0 k p q ninL ((i + 1 : Nat) : Int) := by
 have hw : wrap64 ((i : Int) + 1) = ((i + 1 : Nat) : Int) := by unfold wrap64; omega
 have hl : (ninL.length : Int) = 9 := rfl;simp only [r11_Best.l0];rw [if_pos (by rw [hl]; omega), if_pos (by omega), nin_len ⟨i, hi⟩, hw, if_pos (by decide : (0 : Int) < ((2 : Nat) : Int)), show rd (rd_L3 ninL (i : Int)) 0 = ninA i from rfl, show rd (rd_L3 ninL (i : Int)) 1 = ninB i from rfl];by_cases c1 : ninA i = p
 ·
  rw [if_pos c1, if_pos (by decide : (1 : Int) < ((2 : Nat) : Int))];by_cases c2 : ninB i = q
  · rw [if_pos c2, if_pos ⟨c1, c2⟩]
  rw [if_neg c2, if_neg (fun h => c2 h.2)]
 rw [if_neg c1, if_neg (fun h => c1 h.1)]
theorem nest_get : ∀ (l : List Obj) (w : World) (i : Nat) (o : Obj), l[i]? = some o → (l.foldl World.alloc w).heap[w.heap.size + i]? = some o
 | [], w, i, o, h => by simp at h
 | a :: l, w, i, o, h => by
  cases i with
  | zero =>
   have h' : a = o := by simpa using h
   subst h'
   have : ∀ (l : List Obj) (W : World) (g : Nat), W.heap[g]? = some a → (l.foldl World.alloc W).heap[g]? = some a := by
    intro l;induction l with
    | nil => intro W g h; exact h
    | cons b l ih => intro W g h; exact ih _ _ (blk_alloc h b)
   exact this l _ _ (blk_new w a)
  | succ i =>
   have := nest_get l (w.alloc a) i o (by simpa using h);rw [World.size_alloc] at this;rw [show w.heap.size + (i + 1) = w.heap.size + 1 + i by omega];exact this
theorem nest_below (l : List Obj) (w : World) : Below w.heap.size w (l.foldl World.alloc w) := by
 have : ∀ (l : List Obj) (W : World), Below w.heap.size w W → Below w.heap.size w (l.foldl World.alloc W) := by
  intro l;induction l with
  | nil => intro W h; exact h
  | cons b l ih => intro W h; exact ih _ (below_alloc h b)
 exact this l w (Below.refl _ _)
def Nine (w W : World) (G : Nat) : Prop := Below w.heap.size w W ∧ ∀ i, i < 9 → W.cell? ⟨G, i, none⟩ = some (.slice (some ⟨w.heap.size + i, 0, none⟩) 2 2) ∧ W.cell? ⟨w.heap.size + i, 0, none⟩ = some (.int .i64 (ninA i)) ∧ W.cell? ⟨w.heap.size + i, 1, none⟩ = some (.int .i64 (ninB i))
def nineO (g : Nat) : List Obj := ninL.map (fun x => .cells #[.int .i64 (rd x 0), .int .i64 (rd x 1)] 3) ++ [.cells #[.slice (some ⟨g, 0, none⟩) 2 2, .slice (some ⟨g + 1, 0, none⟩) 2 2, .slice (some ⟨g + 1 + 1, 0, none⟩) 2 2, .slice (some ⟨g + 1 + 1 + 1, 0, none⟩) 2 2, .slice (some ⟨g + 1 + 1 + 1 + 1, 0, none⟩) 2 2, .slice (some ⟨g + 1 + 1 + 1 + 1 + 1, 0, none⟩) 2 2, .slice (some ⟨g + 1 + 1 + 1 + 1 + 1 + 1, 0, none⟩) 2 2, .slice (some ⟨g + 1 + 1 + 1 + 1 + 1 + 1 + 1, 0, none⟩) 2 2, .slice (some ⟨g + 1 + 1 + 1 + 1 + 1 + 1 + 1 + 1, 0, none⟩) 2 2] 35]
theorem nine_of (w : World) : Nine w ((nineO w.heap.size).foldl World.alloc w) (w.heap.size + 9) := by
 refine ⟨nest_below _ w, fun i hi => ?_⟩;have h9 := nest_get (nineO w.heap.size) w 9 _ rfl
 have : ∀ i : Fin 9, (nineO w.heap.size)[i.1]? = some (.cells #[.int .i64 (ninA i.1), .int .i64 (ninB i.1)] 3) := by
  intro i;match i with
  | 0 | 1 | 2 | 3 | 4 | 5 | 6 | 7 | 8 => rfl
 have hj := nest_get (nineO w.heap.size) w i _ (this ⟨i, hi⟩);refine ⟨(blk_cell h9 i).trans ?_, (blk_cell hj 0).trans rfl, (blk_cell hj 1).trans rfl⟩
 have : ∀ i : Fin 9, (#[.slice (some ⟨w.heap.size, 0, none⟩) 2 2, .slice (some ⟨w.heap.size + 1, 0, none⟩) 2 2, .slice (some ⟨w.heap.size + 2, 0, none⟩) 2 2, .slice (some ⟨w.heap.size + 3, 0, none⟩) 2 2, .slice (some ⟨w.heap.size + 4, 0, none⟩) 2 2, .slice (some ⟨w.heap.size + 5, 0, none⟩) 2 2, .slice (some ⟨w.heap.size + 6, 0, none⟩) 2 2, .slice (some ⟨w.heap.size + 7, 0, none⟩) 2 2, .slice (some ⟨w.heap.size + 8, 0, none⟩) 2 2] : Array Value)[i.1]? = some (.slice (some ⟨w.heap.size + i.1, 0, none⟩) 2 2) := by
  intro i;match i with
  | 0 | 1 | 2 | 3 | 4 | 5 | 6 | 7 | 8 => rfl
 exact this ⟨i, hi⟩
theorem r11_Best.calls (k : Nat) (a0 : Int) (a1 : Int) (r : Int) (w : World) (h : r11_Best.f k a0 a1 = some r) :
  Calls Tryz.prog 16 #[.int .i64 a0, .int .i64 a1] w fun e w' => e = .returned (.int .i64 r) ∧ Below w.heap.size w w' := by
 have H : r11_Best.l0 k a0 a1 ninL ((0 : Nat) : Int) = some r := h;have HH := aK H;clear h H;go_enter Tryz.func16, Tryz.ntmps16;go_wp2;obtain ⟨G, hG⟩ : ∃ G, w.heap.size + 1 + 1 + 1 + 1 + 1 + 1 + 1 + 1 + 1 = G := ⟨_, rfl⟩;rw [hG];have HG := aK hG;clear hG;go_loopw [6] (fun v6 wr => ∃ (i kq : Nat), i ≤ 9 ∧ v6 = .int .i64 (i : Int) ∧ Aside0 (r11_Best.l0 kq a0 a1 ninL (i : Int) = some r) ∧ Aside0 (Nine w wr G)) (fun v6 _ => 9 - (intOf v6).toNat)
 case atStart => exact ⟨0, k, Nat.zero_le _, rfl, ⟨HH.out⟩, ⟨by rw [← HG.out]; exact nine_of w⟩⟩
 case round =>
  obtain ⟨i, kq, hi, rfl, HQ, HN⟩ := hrel;clear HH;by_cases hlt : i < 9
  ·
   have g1 : decide ((i : Int) < 9) = true := decide_eq_true (by omega);have g2 : ((i : Int) < 9) = True := eq_true (by omega);have g3 : (0 ≤ (i : Int)) = True := eq_true (by omega);obtain ⟨x0, x1, x2⟩ := HN.out.2 i hlt;obtain ⟨a, ha⟩ : ∃ a, a = ninA i := ⟨_, rfl⟩;obtain ⟨b, hb⟩ : ∃ b, b = ninB i := ⟨_, rfl⟩;rw [← ha] at x1;rw [← hb] at x2;cases kq with
   | zero => exact absurd HQ.out (by simp [r11_Best.l0])
   | succ kq =>
    have hq := HQ.out;rw [rbest_nin kq i a0 a1 hlt, ← ha, ← hb] at hq;have hwi : wrap64 ((i : Int) + 1) = ((i + 1 : Nat) : Int) := by unfold wrap64; omega
    have HLT := aK hlt;clear hlt hi HQ ha hb;by_cases c1 : a = a0
    ·
     have e1 : (a == a0) = true := beq_iff_eq.mpr c1;by_cases c2 : b = a1
     ·
      have e2 : (b == a1) = true := beq_iff_eq.mpr c2;rw [if_pos ⟨c1, c2⟩] at hq;obtain rfl := Option.some.inj hq;clear c1 c2 hq;go_wp2;go_ret;exact ⟨by rw [hwi]; rfl, HN.out.1⟩
     have e2 : (b == a1) = false := beq_eq_false_iff_ne.mpr c2;rw [if_neg (fun h => c2 h.2)] at hq;have HQ := aK hq;clear c1 c2 hq;go_wp2;exact ⟨⟨i + 1, kq, HLT.out, by rw [hwi], HQ, HN⟩, by rw [hwi]; simp only [intOf, Int.toNat_natCast]; have := HLT.out; omega⟩
    have e1 : (a == a0) = false := beq_eq_false_iff_ne.mpr c1;rw [if_neg (fun h => c1 h.1)] at hq;have HQ := aK hq;clear c1 hq;go_wp2;exact ⟨⟨i + 1, kq, HLT.out, by rw [hwi], HQ, HN⟩, by rw [hwi]; simp only [intOf, Int.toNat_natCast]; have := HLT.out; omega⟩
  have g1 : decide ((i : Int) < 9) = false := decide_eq_false (by omega);obtain rfl : i = 9 := by omega
  cases kq with
  | zero => exact absurd HQ.out (by simp [r11_Best.l0])
  | succ kq =>
   have hq := HQ.out;simp only [r11_Best.l0] at hq;rw [if_neg (by decide)] at hq;obtain rfl := Option.some.inj hq;clear HQ hq hi hlt;go_wp2;go_ret;exact ⟨rfl, HN.out.1⟩
def r11_format.f (a0 : Int) : Option (Bool) := if a0 = 0 then (some true) else (if a0 = 4 then (some true) else (if a0 = 6 then (some true) else (if a0 = 12 then (some true) else (some (a0 == 13)))))
theorem r11_format.calls (a0 : Int) (r : Bool) (w : World) (h : r11_format.f a0 = some r) :
  Calls Tryz.prog 27 #[.int .i64 a0] w fun e w' => e = .returned (.bool r) ∧ Drawn0 w w' := by
 have H : (if a0 = 0 then (some true) else (if a0 = 4 then (some true) else (if a0 = 6 then (some true) else (if a0 = 12 then (some true) else (some (a0 == 13)))))) = some r := h;clear h;replace H := qF H;rcases H with ⟨c2b0, c2b1, H⟩ | ⟨c2b0, c2b1, H⟩
 ·
  obtain rfl := Option.some.inj H;go_enter Tryz.func27, Tryz.ntmps27;go_wp2;go_ret;exact ⟨by first | rfl | (simp; done) | (simp [*]; done), by repeat (first | exact Drawn0.refl _ | apply Drawn0.step)⟩
 replace H := qF H;rcases H with ⟨c3b0, c3b1, H⟩ | ⟨c3b0, c3b1, H⟩
 ·
  obtain rfl := Option.some.inj H;go_enter Tryz.func27, Tryz.ntmps27;go_wp2;go_ret;exact ⟨by first | rfl | (simp; done) | (simp [*]; done), by repeat (first | exact Drawn0.refl _ | apply Drawn0.step)⟩
 replace H := qF H;rcases H with ⟨c4b0, c4b1, H⟩ | ⟨c4b0, c4b1, H⟩
 ·
  obtain rfl := Option.some.inj H;go_enter Tryz.func27, Tryz.ntmps27;go_wp2;go_ret;exact ⟨by first | rfl | (simp; done) | (simp [*]; done), by repeat (first | exact Drawn0.refl _ | apply Drawn0.step)⟩
 replace H := qF H;rcases H with ⟨c5b0, c5b1, H⟩ | ⟨c5b0, c5b1, H⟩
 ·
  obtain rfl := Option.some.inj H;go_enter Tryz.func27, Tryz.ntmps27;go_wp2;go_ret;exact ⟨by first | rfl | (simp; done) | (simp [*]; done), by repeat (first | exact Drawn0.refl _ | apply Drawn0.step)⟩
 obtain rfl := Option.some.inj H;go_enter Tryz.func27, Tryz.ntmps27;go_wp2;go_ret;exact ⟨by first | rfl | (simp; done) | (simp [*]; done), by repeat (first | exact Drawn0.refl _ | apply Drawn0.step)⟩
def r11_Get.l0 : Nat → ByteArray → Int → Int → Int → Int → Option ((List (S61)) × Int)
 | 0, _, _, _, _, _ => none
 | k + 1, x0, x4, x5, x6, x7 => if x7 < x4 then (if 0 ≤ (wrap64 (4 + (wrap64 (8 * x7)))) then (if (wrap64 (4 + (wrap64 (8 * x7)))) ≤ (wrap64 ((wrap64 (4 + (wrap64 (8 * x7)))) + 2)) then (if (wrap64 ((wrap64 (4 + (wrap64 (8 * x7)))) + 2)) ≤ (x0.size : Int) then ((r03_One.f k (x0.extract ((wrap64 (4 + (wrap64 (8 * x7)))) : Int).toNat ((wrap64 ((wrap64 (4 + (wrap64 (8 * x7)))) + 2)) : Int).toNat) 2).bind fun t356 => (if 0 ≤ (wrap64 ((wrap64 (4 + (wrap64 (8 * x7)))) + 2)) then (if (wrap64 ((wrap64 (4 + (wrap64 (8 * x7)))) + 2)) ≤ (wrap64 ((wrap64 (4 + (wrap64 (8 * x7)))) + 4)) then (if (wrap64 ((wrap64 (4 + (wrap64 (8 * x7)))) + 4)) ≤ (x0.size : Int) then ((r03_One.f k (x0.extract ((wrap64 ((wrap64 (4 + (wrap64 (8 * x7)))) + 2)) : Int).toNat ((wrap64 ((wrap64 (4 + (wrap64 (8 * x7)))) + 4)) : Int).toNat) 2).bind fun t357 => ((r11_Best.f k t356 t357).bind fun t358 => (if 0 ≤ (wrap64 ((wrap64 (4 + (wrap64 (8 * x7)))) + 4)) then (if (wrap64 ((wrap64 (4 + (wrap64 (8 * x7)))) + 4)) ≤ (wrap64 ((wrap64 (4 + (wrap64 (8 * x7)))) + 8)) then (if (wrap64 ((wrap64 (4 + (wrap64 (8 * x7)))) + 8)) ≤ (x0.size : Int) then ((r03_One.f k (x0.extract ((wrap64 ((wrap64 (4 + (wrap64 (8 * x7)))) + 4)) : Int).toNat ((wrap64 ((wrap64 (4 + (wrap64 (8 * x7)))) + 8)) : Int).toNat) 4).bind fun t359 => (if t358 > x5 then (if (wrap64 (t359 + 2)) ≤ (x0.size : Int) then (if 0 ≤ t359 then (if t359 ≤ (wrap64 (t359 + 2)) then ((r03_One.f k (x0.extract (t359 : Int).toNat ((wrap64 (t359 + 2)) : Int).toNat) 2).bind fun t360 => ((r11_format.f t360).bind fun t361 => (if t361 = true then (r11_Get.l0 k x0 x4 t358 t359 (wrap64 (x7 + 1))) else (r11_Get.l0 k x0 x4 x5 x6 (wrap64 (x7 + 1)))))) else (none)) else (none)) else (r11_Get.l0 k x0 x4 x5 x6 (wrap64 (x7 + 1)))) else (r11_Get.l0 k x0 x4 x5 x6 (wrap64 (x7 + 1))))) else (none)) else (none)) else (none)))) else (none)) else (none)) else (none))) else (none)) else (none)) else (none)) else (if x5 = 0 then (some (([] : List (S61)), 6)) else (if 0 ≤ x6 then (if x6 ≤ (x0.size : Int) then ((r11_Read.f k (x0.extract (x6 : Int).toNat x0.size)).bind fun bt352 => (some (bt352.1, bt352.2))) else (none)) else (none)))
def r11_Get.f (k : Nat) (a0 : ByteArray) : Option ((List (S61)) × Int) := if (a0.size : Int) < 4 then (some (([] : List (S61)), 4)) else (if 0 ≤ 2 then (if 2 ≤ (a0.size : Int) then ((r03_One.f k (a0.extract 0 2) 2).bind fun t350 => (if t350 = 0 then (if 2 ≤ 4 then (if 4 ≤ (a0.size : Int) then ((r03_One.f k (a0.extract 2 4) 2).bind fun t351 => (if t351 > 64 then (some (([] : List (S61)), 7)) else (if (a0.size : Int) < (wrap64 (4 + (wrap64 (8 * t351)))) then (some (([] : List (S61)), 4)) else (r11_Get.l0 k a0 t351 0 0 0)))) else (none)) else (none)) else (some (([] : List (S61)), 5)))) else (none)) else (none))
def r11_Get.T16 : Bool × List (List Nat × List Nat) := (true, [([], []), ([], []), ([], []), ([2], [2]), ([0, 1, 3], [0, 1, 3]), ([4], [4]), ([], []), ([], []), ([7], [7]), ([], []), ([9], [9]), ([6, 8, 10], [6, 8, 10]), ([11, 5], [11]), ([5, 12, 12], [5, 12]), ([13, 13, 0, 1, 2, 3, 4, 5, 6, 7, 8, 9, 10, 11, 12, 13], [13])])
def r11_Get.B16 : List Nat := [0, 0, 0, 4, 15, 31, 0, 0, 128, 0, 512, 1984, 4095, 8191, 16383]
theorem r11_Get.tab16 : rtab .any (opsOf Tryz.f6 16) = r11_Get.T16 := by kernel_rfl
theorem r11_Get.bits16 : waitsOk r11_Get.T16.2 r11_Get.B16 = true := by kernel_rfl
theorem r11_Get.calls (k : Nat) (a0 : ByteArray) (r1 : List (S61)) (r2 : Int) (w : World) (h : r11_Get.f k a0 = some (r1, r2)) :
  Calls Tryz.prog 6 #[.string a0] w fun e w' => ∃ v0_ : Value, e = .returned (.tuple #[v0_, .int .i64 r2]) ∧ Kd.R k61 61 w' w.heap.size (fun _ => True) v0_ r1 ∧ Below w.heap.size w w' := by
 have HB := aK (Below.refl w.heap.size w);have H : (if (a0.size : Int) < 4 then (some (([] : List (S61)), 4)) else (if 0 ≤ 2 then (if 2 ≤ (a0.size : Int) then ((r03_One.f k (a0.extract 0 2) 2).bind fun t350 => (if t350 = 0 then (if 2 ≤ 4 then (if 4 ≤ (a0.size : Int) then ((r03_One.f k (a0.extract 2 4) 2).bind fun t351 => (if t351 > 64 then (some (([] : List (S61)), 7)) else (if (a0.size : Int) < (wrap64 (4 + (wrap64 (8 * t351)))) then (some (([] : List (S61)), 4)) else (r11_Get.l0 k a0 t351 0 0 0)))) else (none)) else (none)) else (some (([] : List (S61)), 5)))) else (none)) else (none))) = some (r1, r2) := h;clear h;replace H := qC H;rcases H with ⟨c2, H⟩ | ⟨c2, H⟩
 ·
  have c2b0 : decide ((a0.size : Int) < 4) = true := decide_eq_true c2;have c2b1 : decide (a0.size < 4) = true := decide_eq_true (by omega);clear c2;obtain ⟨rfl, rfl⟩ := qP H;go_enter Tryz.func6, Tryz.ntmps6;go_wp2;go_ret2;exact ⟨_, eA, nA, bA⟩
 have c2b0 : decide ((a0.size : Int) < 4) = false := decide_eq_false c2;have c2b1 : decide (a0.size < 4) = false := decide_eq_false (by omega);clear c2;replace H := nD H;obtain ⟨c3, c3b0, c3b1, H⟩ := H;clear c3;replace H := nD H;obtain ⟨c4, c4b0, c4b1, H⟩ := H;clear c4;replace H := qS H;obtain ⟨t350, A5, H⟩ := H;replace H := qF H;rcases H with ⟨c6b0, c6b1, H⟩ | ⟨c6b0, c6b1, H⟩
 ·
  replace H := nD H;obtain ⟨c7, c7b0, c7b1, H⟩ := H;clear c7;replace H := nD H;obtain ⟨c8, c8b0, c8b1, H⟩ := H;clear c8;replace H := qS H;obtain ⟨t351, A9, H⟩ := H;replace H := qM H;rcases H with ⟨c10b0, H⟩ | ⟨c10b0, H⟩
  ·
   obtain ⟨rfl, rfl⟩ := qP H;go_enter Tryz.func6, Tryz.ntmps6;go_wp2_with (first | ((with_reducible refine gate_callee (f := 26) rfl ?_); refine gD_ 18 Tryz.func26 (r03_One.calls k (a0.extract 0 2) 2 t350 _ A5.out) ?_; intro nd) | ((with_reducible refine gate_callee (f := 26) rfl ?_); refine gD_ 22 Tryz.func26 (r03_One.calls k (a0.extract 2 4) 2 t351 _ A9.out) ?_; intro nd))
   go_ret2;exact ⟨_, eA, nA, bA⟩
  replace H := qL H;rcases H with ⟨c11b0, H⟩ | ⟨c11b0, H⟩
  ·
   obtain ⟨rfl, rfl⟩ := qP H;go_enter Tryz.func6, Tryz.ntmps6;go_wp2_with (first | ((with_reducible refine gate_callee (f := 26) rfl ?_); refine gD_ 18 Tryz.func26 (r03_One.calls k (a0.extract 0 2) 2 t350 _ A5.out) ?_; intro nd) | ((with_reducible refine gate_callee (f := 26) rfl ?_); refine gD_ 22 Tryz.func26 (r03_One.calls k (a0.extract 2 4) 2 t351 _ A9.out) ?_; intro nd))
   go_ret2;exact ⟨_, eA, nA, bA⟩
  have H' := aK H;clear H;go_enter Tryz.func6, Tryz.ntmps6;go_wp2_with (first | ((with_reducible refine gate_callee (f := 26) rfl ?_); refine gD_ 18 Tryz.func26 (r03_One.calls k (a0.extract 0 2) 2 t350 _ A5.out) ?_; intro nd) | ((with_reducible refine gate_callee (f := 26) rfl ?_); refine gD_ 22 Tryz.func26 (r03_One.calls k (a0.extract 2 4) 2 t351 _ A9.out) ?_; intro nd))
  go_loopg [5, 6, 7] k (fun kq v5 v6 v7 w' => ∃ (x5_1 : Int) (x6_1 : Int) (x7_1 : Int), v5 = .int .i64 x5_1 ∧ v6 = .int .i64 x6_1 ∧ v7 = .int .i64 x7_1 ∧ Aside0 (r11_Get.l0 kq a0 t351 x5_1 x6_1 x7_1 = some (r1, r2)) ∧ Aside0 (kq ≤ k) ∧ Aside0 (Below w.heap.size w w'))
  case atStart => exact ⟨(0), (0), (0), gA, gA, gA, H', ⟨Nat.le_refl _⟩, ⟨bA⟩⟩
  case round =>
   clear H';obtain ⟨x5_1, x6_1, x7_1, rfl, rfl, rfl, HA, HK1, HB⟩ := hrel;cases gk with
   | zero => exact absurd HA.out (by simp [r11_Get.l0])
   | succ k1 =>
    have H := HA.out;clear HA;simp only [r11_Get.l0] at H;replace H := qL H;rcases H with ⟨c12b0, H⟩ | ⟨c12b0, H⟩
    ·
     obtain ⟨ji13, hji13⟩ : ∃ j_ : Int, (wrap64 (4 + (wrap64 (8 * x7_1)))) = j_ := ⟨_, rfl⟩;replace H : (if 0 ≤ (ji13) then (if (ji13) ≤ (wrap64 ((ji13) + 2)) then (if (wrap64 ((ji13) + 2)) ≤ (a0.size : Int) then ((r03_One.f k1 (a0.extract ((ji13) : Int).toNat ((wrap64 ((ji13) + 2)) : Int).toNat) 2).bind fun t356 => (if 0 ≤ (wrap64 ((ji13) + 2)) then (if (wrap64 ((ji13) + 2)) ≤ (wrap64 ((ji13) + 4)) then (if (wrap64 ((ji13) + 4)) ≤ (a0.size : Int) then ((r03_One.f k1 (a0.extract ((wrap64 ((ji13) + 2)) : Int).toNat ((wrap64 ((ji13) + 4)) : Int).toNat) 2).bind fun t357 => ((r11_Best.f k1 t356 t357).bind fun t358 => (if 0 ≤ (wrap64 ((ji13) + 4)) then (if (wrap64 ((ji13) + 4)) ≤ (wrap64 ((ji13) + 8)) then (if (wrap64 ((ji13) + 8)) ≤ (a0.size : Int) then ((r03_One.f k1 (a0.extract ((wrap64 ((ji13) + 4)) : Int).toNat ((wrap64 ((ji13) + 8)) : Int).toNat) 4).bind fun t359 => (if t358 > x5_1 then (if (wrap64 (t359 + 2)) ≤ (a0.size : Int) then (if 0 ≤ t359 then (if t359 ≤ (wrap64 (t359 + 2)) then ((r03_One.f k1 (a0.extract (t359 : Int).toNat ((wrap64 (t359 + 2)) : Int).toNat) 2).bind fun t360 => ((r11_format.f t360).bind fun t361 => (if t361 = true then (r11_Get.l0 k1 a0 t351 t358 t359 (wrap64 (x7_1 + 1))) else (r11_Get.l0 k1 a0 t351 x5_1 x6_1 (wrap64 (x7_1 + 1)))))) else (none)) else (none)) else (r11_Get.l0 k1 a0 t351 x5_1 x6_1 (wrap64 (x7_1 + 1)))) else (r11_Get.l0 k1 a0 t351 x5_1 x6_1 (wrap64 (x7_1 + 1))))) else (none)) else (none)) else (none)))) else (none)) else (none)) else (none))) else (none)) else (none)) else (none)) = some (r1, r2) := by first | (rw [hji13] at H; exact H) | (simp only [hji13] at H ⊢; exact H)
     have hji13w : (IntKind.i64.wrap (4 + (wrap64 (8 * x7_1)))) = ji13 := (i64_w _).trans hji13;replace H := nD H;obtain ⟨c14, c14b0, c14b1, H⟩ := H;clear c14;replace H := nD H;obtain ⟨c15, c15b0, c15b1, H⟩ := H;replace H := nD H;obtain ⟨c16, c16b0, c16b1, H⟩ := H;replace H := qS H;obtain ⟨t356, A17, H⟩ := H;obtain ⟨ji18, hji18⟩ : ∃ j_ : Int, (wrap64 ((ji13) + 2)) = j_ := ⟨_, rfl⟩;replace H : (if 0 ≤ (ji18) then (if (ji18) ≤ (wrap64 ((ji13) + 4)) then (if (wrap64 ((ji13) + 4)) ≤ (a0.size : Int) then ((r03_One.f k1 (a0.extract ((ji18) : Int).toNat ((wrap64 ((ji13) + 4)) : Int).toNat) 2).bind fun t357 => ((r11_Best.f k1 t356 t357).bind fun t358 => (if 0 ≤ (wrap64 ((ji13) + 4)) then (if (wrap64 ((ji13) + 4)) ≤ (wrap64 ((ji13) + 8)) then (if (wrap64 ((ji13) + 8)) ≤ (a0.size : Int) then ((r03_One.f k1 (a0.extract ((wrap64 ((ji13) + 4)) : Int).toNat ((wrap64 ((ji13) + 8)) : Int).toNat) 4).bind fun t359 => (if t358 > x5_1 then (if (wrap64 (t359 + 2)) ≤ (a0.size : Int) then (if 0 ≤ t359 then (if t359 ≤ (wrap64 (t359 + 2)) then ((r03_One.f k1 (a0.extract (t359 : Int).toNat ((wrap64 (t359 + 2)) : Int).toNat) 2).bind fun t360 => ((r11_format.f t360).bind fun t361 => (if t361 = true then (r11_Get.l0 k1 a0 t351 t358 t359 (wrap64 (x7_1 + 1))) else (r11_Get.l0 k1 a0 t351 x5_1 x6_1 (wrap64 (x7_1 + 1)))))) else (none)) else (none)) else (r11_Get.l0 k1 a0 t351 x5_1 x6_1 (wrap64 (x7_1 + 1)))) else (r11_Get.l0 k1 a0 t351 x5_1 x6_1 (wrap64 (x7_1 + 1))))) else (none)) else (none)) else (none)))) else (none)) else (none)) else (none)) = some (r1, r2) := by first | (rw [hji18] at H; exact H) | (simp only [hji18] at H ⊢; exact H)
     (try rw [hji18] at c15b0)
     (try rw [hji18] at c15b1)
     (try rw [hji18] at c15)
     (try rw [hji18] at c16b0)
     (try rw [hji18] at c16b1)
     (try rw [hji18] at c16)
     (try rw [hji18] at A17)
     have hji18w : (IntKind.i64.wrap ((ji13) + 2)) = ji18 := (i64_w _).trans hji18;replace H := nD H;obtain ⟨c19, c19b0, c19b1, H⟩ := H;clear c19;replace H := nD H;obtain ⟨c20, c20b0, c20b1, H⟩ := H;replace H := nD H;obtain ⟨c21, c21b0, c21b1, H⟩ := H;replace H := qS H;obtain ⟨t357, A22, H⟩ := H;replace H := qS H;obtain ⟨t358, A23, H⟩ := H;obtain ⟨ji24, hji24⟩ : ∃ j_ : Int, (wrap64 ((ji13) + 4)) = j_ := ⟨_, rfl⟩;replace H : (if 0 ≤ (ji24) then (if (ji24) ≤ (wrap64 ((ji13) + 8)) then (if (wrap64 ((ji13) + 8)) ≤ (a0.size : Int) then ((r03_One.f k1 (a0.extract ((ji24) : Int).toNat ((wrap64 ((ji13) + 8)) : Int).toNat) 4).bind fun t359 => (if t358 > x5_1 then (if (wrap64 (t359 + 2)) ≤ (a0.size : Int) then (if 0 ≤ t359 then (if t359 ≤ (wrap64 (t359 + 2)) then ((r03_One.f k1 (a0.extract (t359 : Int).toNat ((wrap64 (t359 + 2)) : Int).toNat) 2).bind fun t360 => ((r11_format.f t360).bind fun t361 => (if t361 = true then (r11_Get.l0 k1 a0 t351 t358 t359 (wrap64 (x7_1 + 1))) else (r11_Get.l0 k1 a0 t351 x5_1 x6_1 (wrap64 (x7_1 + 1)))))) else (none)) else (none)) else (r11_Get.l0 k1 a0 t351 x5_1 x6_1 (wrap64 (x7_1 + 1)))) else (r11_Get.l0 k1 a0 t351 x5_1 x6_1 (wrap64 (x7_1 + 1))))) else (none)) else (none)) else (none)) = some (r1, r2) := by first | (rw [hji24] at H; exact H) | (simp only [hji24] at H ⊢; exact H)
     (try rw [hji24] at c20b0)
     (try rw [hji24] at c20b1)
     (try rw [hji24] at c20)
     (try rw [hji24] at c21b0)
     (try rw [hji24] at c21b1)
     (try rw [hji24] at c21)
     (try rw [hji24] at A17)
     (try rw [hji24] at A22)
     (try rw [hji24] at A23)
     have hji24w : (IntKind.i64.wrap ((ji13) + 4)) = ji24 := (i64_w _).trans hji24;replace H := nD H;obtain ⟨c25, c25b0, c25b1, H⟩ := H;clear c25;replace H := nD H;obtain ⟨c26, c26b0, c26b1, H⟩ := H;replace H := nD H;obtain ⟨c27, c27b0, c27b1, H⟩ := H;replace H := qS H;obtain ⟨t359, A28, H⟩ := H;replace H := qM H;rcases H with ⟨c29b0, H⟩ | ⟨c29b0, H⟩
     ·
      replace H := qL H;rcases H with ⟨c30b0, H⟩ | ⟨c30b0, H⟩
      ·
       replace H := nD H;obtain ⟨c31, c31b0, c31b1, H⟩ := H;clear c31;replace H := nD H;obtain ⟨c32, c32b0, c32b1, H⟩ := H;have c33b0 := eq_true (of_decide_eq_true sA : (wrap64 (t359 + 2)) ≤ (a0.size : Int));replace H := qS H;obtain ⟨t360, A34, H⟩ := H;replace H := qS H;obtain ⟨t361, A35, H⟩ := H;replace H := qB H;rcases H with ⟨rfl, H⟩ | ⟨rfl, H⟩
       ·
        have H' := aK H;clear H;try go_wp2
        have n0_ := aK (below_drew1 HB.out);clear HB;have HB := n0_;clear n0_;refine bg_ 15 (fun w' => True) trivial (fun hHeld => ?_); refine with_tabW r11_Get.tab16 r11_Get.bits16 (fun HT_ HW_ => ?_);generalize wr.drew = w37 at HB hHeld ⊢
        refine pT_ HT_.out 0 39 ?_;refine pT_ HT_.out 1 40 ?_;refine pT_ HT_.out 2 41 ?_;refine pT_ HT_.out 3 42 ?_;refine pT_ HT_.out 4 43 ?_;refine pT_ HT_.out 6 45 ?_;refine pT_ HT_.out 7 46 ?_;refine pT_ HT_.out 8 47 ?_;refine pT_ HT_.out 9 48 ?_;refine pT_ HT_.out 10 49 ?_;refine pT_ HT_.out 11 50 ?_;refine oT_ 5 44 HT_.out (fun K hK => ?_);refine goes_ Tryz.func26 (by kernel_rfl) rfl #[.string (a0.extract ((ji13) : Int).toNat ((ji18) : Int).toNat), .int .i64 2] (by rfl) rfl rfl (by (try simp only [List.map_toArray, List.map_cons, List.map_nil]); first | done | (simp only [hji13, hji18]; rfl) | rfl | (simp only [List.length_drop, List.length_take]; rfl)) ?_;with_reducible refine (r03_One.calls k1 (a0.extract ((ji13) : Int).toNat ((ji18) : Int).toNat) 2 t356 _ A17.out).mono ?_
        rintro e w' ⟨rfl, ⟨nd, rfl⟩⟩;refine ⟨_, rfl, ?_⟩;refine hK.out _ _ trivial (fun hHeld => ?_);clear hK K;refine nS_ ?_;refine oT_ 12 51 HT_.out (fun K hK => ?_);refine goes_ Tryz.func26 (by kernel_rfl) rfl #[.string (a0.extract ((ji18) : Int).toNat ((ji24) : Int).toNat), .int .i64 2] (by rfl) rfl rfl (by (try simp only [List.map_toArray, List.map_cons, List.map_nil]); first | done | (simp only [hji18, hji24]; rfl) | rfl | (simp only [List.length_drop, List.length_take]; rfl)) ?_;with_reducible refine (r03_One.calls k1 (a0.extract ((ji18) : Int).toNat ((ji24) : Int).toNat) 2 t357 _ A22.out).mono ?_
        rintro e w' ⟨rfl, ⟨nd, rfl⟩⟩;refine ⟨_, rfl, ?_⟩;refine hK.out _ _ trivial (fun hHeld => ?_);clear hK K;refine nS_ ?_;refine oT_ 13 52 HT_.out (fun K hK => ?_);refine goes_ Tryz.func16 (by kernel_rfl) rfl #[.int .i64 t356, .int .i64 t357] (by rfl) rfl rfl aA ?_;with_reducible refine (r11_Best.calls k1 t356 t357 t358 _ A23.out).mono ?_
        rintro e w38 ⟨rfl, hb⟩;refine ⟨_, rfl, ?_⟩;have n0_ := aK (below_step bA hb);clear HB;have HB := n0_;clear n0_
        (try clear hb)
        refine hK.out _ _ trivial (fun hHeld => ?_);clear hK K;refine nS_ ?_;refine pT_ HT_.out 14 9 ?_;refine done_ (done_of HT_.out (by kernel_rfl)) ?_;try go_wp2_with (first | ((with_reducible refine gate_callee (f := 26) rfl ?_); refine goesL_ (some 59) rfl rfl Tryz.func26 (by kernel_rfl) rfl #[.string (a0.extract ((ji24) : Int).toNat ((wrap64 ((ji13) + 8)) : Int).toNat), .int .i64 4] rfl (by (try simp only [List.map_toArray, List.map_cons, List.map_nil]); first | done | (simp only [hji13, hji24]; rfl) | rfl | (simp only [List.length_drop, List.length_take]; rfl)) ?_; (with_reducible refine (r03_One.calls k1 (a0.extract ((ji24) : Int).toNat ((wrap64 ((ji13) + 8)) : Int).toNat) 4 t359 _ A28.out).mono ?_); rintro e w' ⟨rfl, ⟨nd, rfl⟩⟩; refine ⟨_, rfl, ?_⟩) | (go_at_call 26; (with_reducible refine (r03_One.calls k1 (a0.extract (t359 : Int).toNat ((wrap64 (t359 + 2)) : Int).toNat) 2 t360 _ A34.out).mono ?_); rintro e w' ⟨rfl, ⟨nd, rfl⟩⟩) | (go_at_call 27; (with_reducible refine (r11_format.calls t360 true _ A35.out).mono ?_); rintro e w' ⟨rfl, ⟨nd, rfl⟩⟩))
        go_roundg k1
        case measure => exact oK
        case rel => exact ⟨(t358), (t359), (wrap64 (x7_1 + 1)), gA, gA, gA, H', ⟨oK⟩, ⟨bA⟩⟩
       have H' := aK H;clear H;try go_wp2
       have n0_ := aK (below_drew1 HB.out);clear HB;have HB := n0_;clear n0_;refine bg_ 15 (fun w' => True) trivial (fun hHeld => ?_); refine with_tabW r11_Get.tab16 r11_Get.bits16 (fun HT_ HW_ => ?_);generalize wr.drew = w39 at HB hHeld ⊢
       refine pT_ HT_.out 0 39 ?_;refine pT_ HT_.out 1 40 ?_;refine pT_ HT_.out 2 41 ?_;refine pT_ HT_.out 3 42 ?_;refine pT_ HT_.out 4 43 ?_;refine pT_ HT_.out 6 45 ?_;refine pT_ HT_.out 7 46 ?_;refine pT_ HT_.out 8 47 ?_;refine pT_ HT_.out 9 48 ?_;refine pT_ HT_.out 10 49 ?_;refine pT_ HT_.out 11 50 ?_;refine oT_ 5 44 HT_.out (fun K hK => ?_);refine goes_ Tryz.func26 (by kernel_rfl) rfl #[.string (a0.extract ((ji13) : Int).toNat ((ji18) : Int).toNat), .int .i64 2] (by rfl) rfl rfl (by (try simp only [List.map_toArray, List.map_cons, List.map_nil]); first | done | (simp only [hji13, hji18]; rfl) | rfl | (simp only [List.length_drop, List.length_take]; rfl)) ?_;with_reducible refine (r03_One.calls k1 (a0.extract ((ji13) : Int).toNat ((ji18) : Int).toNat) 2 t356 _ A17.out).mono ?_
       rintro e w' ⟨rfl, ⟨nd, rfl⟩⟩;refine ⟨_, rfl, ?_⟩;refine hK.out _ _ trivial (fun hHeld => ?_);clear hK K;refine nS_ ?_;refine oT_ 12 51 HT_.out (fun K hK => ?_);refine goes_ Tryz.func26 (by kernel_rfl) rfl #[.string (a0.extract ((ji18) : Int).toNat ((ji24) : Int).toNat), .int .i64 2] (by rfl) rfl rfl (by (try simp only [List.map_toArray, List.map_cons, List.map_nil]); first | done | (simp only [hji18, hji24]; rfl) | rfl | (simp only [List.length_drop, List.length_take]; rfl)) ?_;with_reducible refine (r03_One.calls k1 (a0.extract ((ji18) : Int).toNat ((ji24) : Int).toNat) 2 t357 _ A22.out).mono ?_
       rintro e w' ⟨rfl, ⟨nd, rfl⟩⟩;refine ⟨_, rfl, ?_⟩;refine hK.out _ _ trivial (fun hHeld => ?_);clear hK K;refine nS_ ?_;refine oT_ 13 52 HT_.out (fun K hK => ?_);refine goes_ Tryz.func16 (by kernel_rfl) rfl #[.int .i64 t356, .int .i64 t357] (by rfl) rfl rfl aA ?_;with_reducible refine (r11_Best.calls k1 t356 t357 t358 _ A23.out).mono ?_
       rintro e w40 ⟨rfl, hb⟩;refine ⟨_, rfl, ?_⟩;have n0_ := aK (below_step bA hb);clear HB;have HB := n0_;clear n0_
       (try clear hb)
       refine hK.out _ _ trivial (fun hHeld => ?_);clear hK K;refine nS_ ?_;refine pT_ HT_.out 14 9 ?_;refine done_ (done_of HT_.out (by kernel_rfl)) ?_;try go_wp2_with (first | ((with_reducible refine gate_callee (f := 26) rfl ?_); refine goesL_ (some 59) rfl rfl Tryz.func26 (by kernel_rfl) rfl #[.string (a0.extract ((ji24) : Int).toNat ((wrap64 ((ji13) + 8)) : Int).toNat), .int .i64 4] rfl (by (try simp only [List.map_toArray, List.map_cons, List.map_nil]); first | done | (simp only [hji13, hji24]; rfl) | rfl | (simp only [List.length_drop, List.length_take]; rfl)) ?_; (with_reducible refine (r03_One.calls k1 (a0.extract ((ji24) : Int).toNat ((wrap64 ((ji13) + 8)) : Int).toNat) 4 t359 _ A28.out).mono ?_); rintro e w' ⟨rfl, ⟨nd, rfl⟩⟩; refine ⟨_, rfl, ?_⟩) | (go_at_call 26; (with_reducible refine (r03_One.calls k1 (a0.extract (t359 : Int).toNat ((wrap64 (t359 + 2)) : Int).toNat) 2 t360 _ A34.out).mono ?_); rintro e w' ⟨rfl, ⟨nd, rfl⟩⟩) | (go_at_call 27; (with_reducible refine (r11_format.calls t360 false _ A35.out).mono ?_); rintro e w' ⟨rfl, ⟨nd, rfl⟩⟩))
       go_roundg k1
       case measure => exact oK
       case rel => exact ⟨(x5_1), (x6_1), (wrap64 (x7_1 + 1)), gA, gA, gA, H', ⟨oK⟩, ⟨bA⟩⟩
      have H' := aK H;clear H;try go_wp2
      have n0_ := aK (below_drew1 HB.out);clear HB;have HB := n0_;clear n0_;refine bg_ 15 (fun w' => True) trivial (fun hHeld => ?_); refine with_tabW r11_Get.tab16 r11_Get.bits16 (fun HT_ HW_ => ?_);generalize wr.drew = w41 at HB hHeld ⊢
      refine pT_ HT_.out 0 39 ?_;refine pT_ HT_.out 1 40 ?_;refine pT_ HT_.out 2 41 ?_;refine pT_ HT_.out 3 42 ?_;refine pT_ HT_.out 4 43 ?_;refine pT_ HT_.out 6 45 ?_;refine pT_ HT_.out 7 46 ?_;refine pT_ HT_.out 8 47 ?_;refine pT_ HT_.out 9 48 ?_;refine pT_ HT_.out 10 49 ?_;refine pT_ HT_.out 11 50 ?_;refine oT_ 5 44 HT_.out (fun K hK => ?_);refine goes_ Tryz.func26 (by kernel_rfl) rfl #[.string (a0.extract ((ji13) : Int).toNat ((ji18) : Int).toNat), .int .i64 2] (by rfl) rfl rfl (by (try simp only [List.map_toArray, List.map_cons, List.map_nil]); first | done | (simp only [hji13, hji18]; rfl) | rfl | (simp only [List.length_drop, List.length_take]; rfl)) ?_;with_reducible refine (r03_One.calls k1 (a0.extract ((ji13) : Int).toNat ((ji18) : Int).toNat) 2 t356 _ A17.out).mono ?_
      rintro e w' ⟨rfl, ⟨nd, rfl⟩⟩;refine ⟨_, rfl, ?_⟩;refine hK.out _ _ trivial (fun hHeld => ?_);clear hK K;refine nS_ ?_;refine oT_ 12 51 HT_.out (fun K hK => ?_);refine goes_ Tryz.func26 (by kernel_rfl) rfl #[.string (a0.extract ((ji18) : Int).toNat ((ji24) : Int).toNat), .int .i64 2] (by rfl) rfl rfl (by (try simp only [List.map_toArray, List.map_cons, List.map_nil]); first | done | (simp only [hji18, hji24]; rfl) | rfl | (simp only [List.length_drop, List.length_take]; rfl)) ?_;with_reducible refine (r03_One.calls k1 (a0.extract ((ji18) : Int).toNat ((ji24) : Int).toNat) 2 t357 _ A22.out).mono ?_
      rintro e w' ⟨rfl, ⟨nd, rfl⟩⟩;refine ⟨_, rfl, ?_⟩;refine hK.out _ _ trivial (fun hHeld => ?_);clear hK K;refine nS_ ?_;refine oT_ 13 52 HT_.out (fun K hK => ?_);refine goes_ Tryz.func16 (by kernel_rfl) rfl #[.int .i64 t356, .int .i64 t357] (by rfl) rfl rfl aA ?_;with_reducible refine (r11_Best.calls k1 t356 t357 t358 _ A23.out).mono ?_
      rintro e w42 ⟨rfl, hb⟩;refine ⟨_, rfl, ?_⟩;have n0_ := aK (below_step bA hb);clear HB;have HB := n0_;clear n0_
      (try clear hb)
      refine hK.out _ _ trivial (fun hHeld => ?_);clear hK K;refine nS_ ?_;refine pT_ HT_.out 14 9 ?_;refine done_ (done_of HT_.out (by kernel_rfl)) ?_;try go_wp2_with (first | ((with_reducible refine gate_callee (f := 26) rfl ?_); refine goesL_ (some 59) rfl rfl Tryz.func26 (by kernel_rfl) rfl #[.string (a0.extract ((ji24) : Int).toNat ((wrap64 ((ji13) + 8)) : Int).toNat), .int .i64 4] rfl (by (try simp only [List.map_toArray, List.map_cons, List.map_nil]); first | done | (simp only [hji13, hji24]; rfl) | rfl | (simp only [List.length_drop, List.length_take]; rfl)) ?_; (with_reducible refine (r03_One.calls k1 (a0.extract ((ji24) : Int).toNat ((wrap64 ((ji13) + 8)) : Int).toNat) 4 t359 _ A28.out).mono ?_); rintro e w' ⟨rfl, ⟨nd, rfl⟩⟩; refine ⟨_, rfl, ?_⟩))
      go_roundg k1
      case measure => exact oK
      case rel => exact ⟨(x5_1), (x6_1), (wrap64 (x7_1 + 1)), gA, gA, gA, H', ⟨oK⟩, ⟨bA⟩⟩
     have H' := aK H;clear H;try go_wp2
     have n0_ := aK (below_drew1 HB.out);clear HB;have HB := n0_;clear n0_;refine bg_ 15 (fun w' => True) trivial (fun hHeld => ?_); refine with_tabW r11_Get.tab16 r11_Get.bits16 (fun HT_ HW_ => ?_);generalize wr.drew = w43 at HB hHeld ⊢
     refine pT_ HT_.out 0 39 ?_;refine pT_ HT_.out 1 40 ?_;refine pT_ HT_.out 2 41 ?_;refine pT_ HT_.out 3 42 ?_;refine pT_ HT_.out 4 43 ?_;refine pT_ HT_.out 6 45 ?_;refine pT_ HT_.out 7 46 ?_;refine pT_ HT_.out 8 47 ?_;refine pT_ HT_.out 9 48 ?_;refine pT_ HT_.out 10 49 ?_;refine pT_ HT_.out 11 50 ?_;refine oT_ 5 44 HT_.out (fun K hK => ?_);refine goes_ Tryz.func26 (by kernel_rfl) rfl #[.string (a0.extract ((ji13) : Int).toNat ((ji18) : Int).toNat), .int .i64 2] (by rfl) rfl rfl (by (try simp only [List.map_toArray, List.map_cons, List.map_nil]); first | done | (simp only [hji13, hji18]; rfl) | rfl | (simp only [List.length_drop, List.length_take]; rfl)) ?_;with_reducible refine (r03_One.calls k1 (a0.extract ((ji13) : Int).toNat ((ji18) : Int).toNat) 2 t356 _ A17.out).mono ?_
     rintro e w' ⟨rfl, ⟨nd, rfl⟩⟩;refine ⟨_, rfl, ?_⟩;refine hK.out _ _ trivial (fun hHeld => ?_);clear hK K;refine nS_ ?_;refine oT_ 12 51 HT_.out (fun K hK => ?_);refine goes_ Tryz.func26 (by kernel_rfl) rfl #[.string (a0.extract ((ji18) : Int).toNat ((ji24) : Int).toNat), .int .i64 2] (by rfl) rfl rfl (by (try simp only [List.map_toArray, List.map_cons, List.map_nil]); first | done | (simp only [hji18, hji24]; rfl) | rfl | (simp only [List.length_drop, List.length_take]; rfl)) ?_;with_reducible refine (r03_One.calls k1 (a0.extract ((ji18) : Int).toNat ((ji24) : Int).toNat) 2 t357 _ A22.out).mono ?_
     rintro e w' ⟨rfl, ⟨nd, rfl⟩⟩;refine ⟨_, rfl, ?_⟩;refine hK.out _ _ trivial (fun hHeld => ?_);clear hK K;refine nS_ ?_;refine oT_ 13 52 HT_.out (fun K hK => ?_);refine goes_ Tryz.func16 (by kernel_rfl) rfl #[.int .i64 t356, .int .i64 t357] (by rfl) rfl rfl aA ?_;with_reducible refine (r11_Best.calls k1 t356 t357 t358 _ A23.out).mono ?_
     rintro e w44 ⟨rfl, hb⟩;refine ⟨_, rfl, ?_⟩;have n0_ := aK (below_step bA hb);clear HB;have HB := n0_;clear n0_
     (try clear hb)
     refine hK.out _ _ trivial (fun hHeld => ?_);clear hK K;refine nS_ ?_;refine pT_ HT_.out 14 9 ?_;refine done_ (done_of HT_.out (by kernel_rfl)) ?_;try go_wp2_with (first | ((with_reducible refine gate_callee (f := 26) rfl ?_); refine goesL_ (some 59) rfl rfl Tryz.func26 (by kernel_rfl) rfl #[.string (a0.extract ((ji24) : Int).toNat ((wrap64 ((ji13) + 8)) : Int).toNat), .int .i64 4] rfl (by (try simp only [List.map_toArray, List.map_cons, List.map_nil]); first | done | (simp only [hji13, hji24]; rfl) | rfl | (simp only [List.length_drop, List.length_take]; rfl)) ?_; (with_reducible refine (r03_One.calls k1 (a0.extract ((ji24) : Int).toNat ((wrap64 ((ji13) + 8)) : Int).toNat) 4 t359 _ A28.out).mono ?_); rintro e w' ⟨rfl, ⟨nd, rfl⟩⟩; refine ⟨_, rfl, ?_⟩))
     go_roundg k1
     case measure => exact oK
     case rel => exact ⟨(x5_1), (x6_1), (wrap64 (x7_1 + 1)), gA, gA, gA, H', ⟨oK⟩, ⟨bA⟩⟩
    replace H := qF H;rcases H with ⟨c45b0, c45b1, H⟩ | ⟨c45b0, c45b1, H⟩
    ·
     obtain ⟨rfl, rfl⟩ := qP H;go_wp2;go_ret2;exact ⟨_, eA, nA, bA⟩
    replace H := nD H;obtain ⟨c46, c46b0, c46b1, H⟩ := H;clear c46;replace H := nD H;obtain ⟨c47, c47b0, c47b1, H⟩ := H;clear c47;replace H := qS H;obtain ⟨⟨t352, t353⟩, A48, H⟩ := H;try dsimp only at H
    obtain ⟨rfl, rfl⟩ := qP H;go_wp2_with (first | ((with_reducible refine gate_callee (f := 8) rfl ?_); refine gL_ 87 Tryz.func8 #[.string (a0.extract (x6_1 : Int).toNat a0.size)] ?_; (with_reducible refine (r11_Read.calls k1 (a0.extract (x6_1 : Int).toNat a0.size) t352 t353 _ A48.out).mono ?_); rintro e w49 ⟨v354, rfl, ho0, hb⟩; refine ⟨_, rfl, ?_⟩; have HO355 := aK (Kd.R_lower ho0 (below_size bA)); replace HB := aK (below_step bA hb); (try clear hb ho0)))
    go_ret2;exact ⟨_, eA, rA HO355.out, bA⟩
 obtain ⟨rfl, rfl⟩ := qP H;go_enter Tryz.func6, Tryz.ntmps6;go_wp2_with (first | ((with_reducible refine gate_callee (f := 26) rfl ?_); refine gD_ 18 Tryz.func26 (r03_One.calls k (a0.extract 0 2) 2 t350 _ A5.out) ?_; intro nd))
 go_ret2;exact ⟨_, eA, nA, bA⟩
def r11_write.f (k : Nat) (l0 : List (S61)) (a1 : Int) : Option (ByteArray × Int) := if a1 = 0 then ((r08_PutSmall.f k l0).bind fun bt465 => (some (bt465.1, bt465.2))) else (if a1 = 6 then ((r08_PutTrimmed.f k l0).bind fun bt467 => (some (bt467.1, bt467.2))) else (if a1 = 4 then ((r09_Put.f k l0).bind fun bt469 => (some (bt469.1, bt469.2))) else ((r10_Put.f k l0 a1).bind fun bt471 => (some (bt471.1, bt471.2)))))
theorem r11_write.calls (k : Nat) (A0 : Option Addr) (c0 : Nat) (l0 : List (S61)) (a1 : Int) (r1 : ByteArray) (r2 : Int) (w : World) (hr0 : Kd.C k61 w A0 l0.length l0) (hc0 : l0.length ≤ c0) (h : r11_write.f k l0 a1 = some (r1, r2)) :
  Calls Tryz.prog 32 #[.slice A0 l0.length c0, .int .i64 a1] w fun e w' => e = .returned (.tuple #[.string r1, .int .i64 r2]) ∧ Below w.heap.size w w' := by
 have HR0 := aK hr0;have HC0 := aK hc0;clear hr0 hc0;have HB := aK (Below.refl w.heap.size w);have H : (if a1 = 0 then ((r08_PutSmall.f k l0).bind fun bt465 => (some (bt465.1, bt465.2))) else (if a1 = 6 then ((r08_PutTrimmed.f k l0).bind fun bt467 => (some (bt467.1, bt467.2))) else (if a1 = 4 then ((r09_Put.f k l0).bind fun bt469 => (some (bt469.1, bt469.2))) else ((r10_Put.f k l0 a1).bind fun bt471 => (some (bt471.1, bt471.2)))))) = some (r1, r2) := h;clear h;replace H := qF H;rcases H with ⟨c3b0, c3b1, H⟩ | ⟨c3b0, c3b1, H⟩
 ·
  replace H := qS H;obtain ⟨⟨t465, t466⟩, A4, H⟩ := H;try dsimp only at H
  obtain ⟨rfl, rfl⟩ := qP H;go_enter Tryz.func32, Tryz.ntmps32;go_wp2_with (first | ((with_reducible refine gate_callee (f := 63) rfl ?_); refine gB_ 19 Tryz.func63 (r08_PutSmall.calls k _ _ l0 t465 t466 _ ?side1 ?side2 A4.out) ?_; (case side1 => exact cA HR0.out); (case side2 => exact HC0.out); clear HB; intro w5 hb HB; clear hb))
  go_ret2;exact ⟨eA, bA⟩
 replace H := qF H;rcases H with ⟨c6b0, c6b1, H⟩ | ⟨c6b0, c6b1, H⟩
 ·
  replace H := qS H;obtain ⟨⟨t467, t468⟩, A7, H⟩ := H;try dsimp only at H
  obtain ⟨rfl, rfl⟩ := qP H;go_enter Tryz.func32, Tryz.ntmps32;go_wp2_with (first | ((with_reducible refine gate_callee (f := 64) rfl ?_); refine gB_ 28 Tryz.func64 (r08_PutTrimmed.calls k _ _ l0 t467 t468 _ ?side1 ?side2 A7.out) ?_; (case side1 => exact cA HR0.out); (case side2 => exact HC0.out); clear HB; intro w8 hb HB; clear hb))
  go_ret2;exact ⟨eA, bA⟩
 replace H := qF H;rcases H with ⟨c9b0, c9b1, H⟩ | ⟨c9b0, c9b1, H⟩
 ·
  replace H := qS H;obtain ⟨⟨t469, t470⟩, A10, H⟩ := H;try dsimp only at H
  obtain ⟨rfl, rfl⟩ := qP H;go_enter Tryz.func32, Tryz.ntmps32;go_wp2_with (first | ((with_reducible refine gate_callee (f := 65) rfl ?_); refine gB_ 37 Tryz.func65 (r09_Put.calls k _ _ l0 t469 t470 _ ?side1 ?side2 A10.out) ?_; (case side1 => exact cA HR0.out); (case side2 => exact HC0.out); clear HB; intro w11 hb HB; clear hb))
  go_ret2;exact ⟨eA, bA⟩
 replace H := qS H;obtain ⟨⟨t471, t472⟩, A12, H⟩ := H;try dsimp only at H
 obtain ⟨rfl, rfl⟩ := qP H;go_enter Tryz.func32, Tryz.ntmps32;go_wp2_with (first | ((with_reducible refine gate_callee (f := 66) rfl ?_); refine gB_ 45 Tryz.func66 (r10_Put.calls k _ _ l0 a1 t471 t472 _ ?side1 ?side2 A12.out) ?_; (case side1 => exact cA HR0.out); (case side2 => exact HC0.out); clear HB; intro w13 hb HB; clear hb))
 go_ret2;exact ⟨eA, bA⟩
def r11_Glyph.f (k : Nat) (l0 : List (S61)) (a1 : Int) (a2 : Int) : Option (Int × Int) := (r08_Is.f k l0).bind fun t482 => (if t482 = true then ((r08_Look.f k l0 a1).bind fun t483 => (if t483 = 0 then (some (0, 10)) else (if t483 ≥ a2 then (some (0, 10)) else (some (t483, 0))))) else (some (0, 1)))
theorem r11_Glyph.calls (k : Nat) (A0 : Option Addr) (c0 : Nat) (l0 : List (S61)) (a1 : Int) (a2 : Int) (r1 : Int) (r2 : Int) (w : World) (hr0 : Kd.C k61 w A0 l0.length l0) (hc0 : l0.length ≤ c0) (h : r11_Glyph.f k l0 a1 a2 = some (r1, r2)) :
  Calls Tryz.prog 12 #[.slice A0 l0.length c0, .int .i64 a1, .int .i64 a2] w fun e w' => e = .returned (.tuple #[.int .i64 r1, .int .i64 r2]) ∧ Below w.heap.size w w' := by
 have HR0 := aK hr0;have HC0 := aK hc0;clear hr0 hc0;have HB := aK (Below.refl w.heap.size w);have H : ((r08_Is.f k l0).bind fun t482 => (if t482 = true then ((r08_Look.f k l0 a1).bind fun t483 => (if t483 = 0 then (some (0, 10)) else (if t483 ≥ a2 then (some (0, 10)) else (some (t483, 0))))) else (some (0, 1)))) = some (r1, r2) := h;clear h;replace H := qS H;obtain ⟨t482, A4, H⟩ := H;replace H := qB H;rcases H with ⟨rfl, H⟩ | ⟨rfl, H⟩
 ·
  replace H := qS H;obtain ⟨t483, A6, H⟩ := H;replace H := qF H;rcases H with ⟨c7b0, c7b1, H⟩ | ⟨c7b0, c7b1, H⟩
  ·
   obtain ⟨rfl, rfl⟩ := qP H;go_enter Tryz.func12, Tryz.ntmps12;go_wp2_with (first | ((with_reducible refine gate_callee (f := 35) rfl ?_); refine gB_ 10 Tryz.func35 (r08_Is.calls k _ _ l0 true _ ?side1 ?side2 A4.out) ?_; (case side1 => exact cA HR0.out); (case side2 => exact HC0.out); clear HB; intro w8 hb HB; clear hb) | ((with_reducible refine gate_callee (f := 36) rfl ?_); refine gB_ 14 Tryz.func36 (r08_Look.calls k _ _ l0 a1 t483 _ ?side1 ?side2 A6.out) ?_; (case side1 => exact cB HR0.out); (case side2 => exact HC0.out); clear HB; intro w9 hb HB; clear hb))
   go_ret2;exact ⟨eA, bA⟩
  replace H := qG H;rcases H with ⟨c10b0, H⟩ | ⟨c10b0, H⟩
  ·
   obtain ⟨rfl, rfl⟩ := qP H;go_enter Tryz.func12, Tryz.ntmps12;go_wp2_with (first | ((with_reducible refine gate_callee (f := 35) rfl ?_); refine gB_ 10 Tryz.func35 (r08_Is.calls k _ _ l0 true _ ?side1 ?side2 A4.out) ?_; (case side1 => exact cA HR0.out); (case side2 => exact HC0.out); clear HB; intro w11 hb HB; clear hb) | ((with_reducible refine gate_callee (f := 36) rfl ?_); refine gB_ 14 Tryz.func36 (r08_Look.calls k _ _ l0 a1 t483 _ ?side1 ?side2 A6.out) ?_; (case side1 => exact cB HR0.out); (case side2 => exact HC0.out); clear HB; intro w12 hb HB; clear hb))
   go_ret2;exact ⟨eA, bA⟩
  obtain ⟨rfl, rfl⟩ := qP H;go_enter Tryz.func12, Tryz.ntmps12;go_wp2_with (first | ((with_reducible refine gate_callee (f := 35) rfl ?_); refine gB_ 10 Tryz.func35 (r08_Is.calls k _ _ l0 true _ ?side1 ?side2 A4.out) ?_; (case side1 => exact cA HR0.out); (case side2 => exact HC0.out); clear HB; intro w13 hb HB; clear hb) | ((with_reducible refine gate_callee (f := 36) rfl ?_); refine gB_ 14 Tryz.func36 (r08_Look.calls k _ _ l0 a1 t483 _ ?side1 ?side2 A6.out) ?_; (case side1 => exact cB HR0.out); (case side2 => exact HC0.out); clear HB; intro w14 hb HB; clear hb))
  go_ret2;exact ⟨eA, bA⟩
 obtain ⟨rfl, rfl⟩ := qP H;go_enter Tryz.func12, Tryz.ntmps12;go_wp2_with (first | ((with_reducible refine gate_callee (f := 35) rfl ?_); refine gB_ 10 Tryz.func35 (r08_Is.calls k _ _ l0 false _ ?side1 ?side2 A4.out) ?_; (case side1 => exact cA HR0.out); (case side2 => exact HC0.out); clear HB; intro w15 hb HB; clear hb))
 go_ret2;exact ⟨eA, bA⟩
def chart_span_glyph.f (a0_0 : Int) (a0_1 : Int) (a0_2 : Int) (a0_3 : Int) (a1 : Int) : Option (Int) := some (wrap64 (a0_2 + (wrap64 (a0_3 * (wrap64 (a1 - a0_0))))))
theorem chart_span_glyph.calls (a0_0 : Int) (a0_1 : Int) (a0_2 : Int) (a0_3 : Int) (a1 : Int) (r : Int) (w : World) (h : chart_span_glyph.f a0_0 a0_1 a0_2 a0_3 a1 = some r) :
  Calls Tryz.prog 101 #[.agg #[.int .i64 a0_0, .int .i64 a0_1, .int .i64 a0_2, .int .i64 a0_3], .int .i64 a1] w fun e w' => e = .returned (.int .i64 r) ∧ Below w.heap.size w w' := by
 have hu91 := Tryz.underlying91;have HB := aK (Below.refl w.heap.size w);have H : (some (wrap64 (a0_2 + (wrap64 (a0_3 * (wrap64 (a1 - a0_0))))))) = some r := h;clear h;obtain rfl := Option.some.inj H;go_enter Tryz.func101, Tryz.ntmps101;go_wp2_with (first | ((with_reducible refine gate_dst (N := 2) rfl ?_); refine box4 2 91 a0_0 a0_1 a0_2 a0_3 ?_; clear HB; intro gb172 w3 BK172 GW172 GE172 HB hcz4_0 hcz4_1 hcz4_2 hcz4_3 hfz4_0 hfz4_1 hfz4_2 hfz4_3))
 go_ret;exact ⟨eA, bG GE172.out⟩
def chart_span_right.f (a0_0 : Int) (a0_1 : Int) (a0_2 : Int) (a0_3 : Int) : Option (Bool) := if a0_0 ≥ 0 then (if a0_1 ≥ a0_0 then (if a0_1 ≤ 1114111 then (if a0_3 = 0 then (if a0_2 ≥ 0 then (if a0_2 ≤ 65535 then ((chart_span_glyph.f a0_0 a0_1 a0_2 a0_3 a0_1).bind fun t521 => (some (decide (t521 ≤ 65535)))) else (some false)) else (some false)) else (if a0_3 = 1 then (if a0_2 ≥ 0 then (if a0_2 ≤ 65535 then ((chart_span_glyph.f a0_0 a0_1 a0_2 a0_3 a0_1).bind fun t522 => (some (decide (t522 ≤ 65535)))) else (some false)) else (some false)) else (some false))) else (some false)) else (some false)) else (some false)
theorem chart_span_right.calls (a0_0 : Int) (a0_1 : Int) (a0_2 : Int) (a0_3 : Int) (r : Bool) (w : World) (h : chart_span_right.f a0_0 a0_1 a0_2 a0_3 = some r) :
  Calls Tryz.prog 68 #[.agg #[.int .i64 a0_0, .int .i64 a0_1, .int .i64 a0_2, .int .i64 a0_3]] w fun e w' => e = .returned (.bool r) ∧ Below w.heap.size w w' := by
 have hu91 := Tryz.underlying91;have HB := aK (Below.refl w.heap.size w);have H : (if a0_0 ≥ 0 then (if a0_1 ≥ a0_0 then (if a0_1 ≤ 1114111 then (if a0_3 = 0 then (if a0_2 ≥ 0 then (if a0_2 ≤ 65535 then ((chart_span_glyph.f a0_0 a0_1 a0_2 a0_3 a0_1).bind fun t521 => (some (decide (t521 ≤ 65535)))) else (some false)) else (some false)) else (if a0_3 = 1 then (if a0_2 ≥ 0 then (if a0_2 ≤ 65535 then ((chart_span_glyph.f a0_0 a0_1 a0_2 a0_3 a0_1).bind fun t522 => (some (decide (t522 ≤ 65535)))) else (some false)) else (some false)) else (some false))) else (some false)) else (some false)) else (some false)) = some r := h;clear h;replace H := qG H;rcases H with ⟨c2b0, H⟩ | ⟨c2b0, H⟩
 ·
  replace H := qG H;rcases H with ⟨c3b0, H⟩ | ⟨c3b0, H⟩
  ·
   replace H := qL H;rcases H with ⟨c4b0, H⟩ | ⟨c4b0, H⟩
   ·
    replace H := qF H;rcases H with ⟨c5b0, c5b1, H⟩ | ⟨c5b0, c5b1, H⟩
    ·
     replace H := qG H;rcases H with ⟨c6b0, H⟩ | ⟨c6b0, H⟩
     ·
      replace H := qL H;rcases H with ⟨c7b0, H⟩ | ⟨c7b0, H⟩
      ·
       replace H := qS H;obtain ⟨t521, A8, H⟩ := H;obtain rfl := Option.some.inj H;go_enter Tryz.func68, Tryz.ntmps68;go_wp2_with (first | ((with_reducible refine gate_dst (N := 1) rfl ?_); refine box4 1 91 a0_0 a0_1 a0_2 a0_3 ?_; clear HB; intro gb520 w9 BK520 GW520 GE520 HB hcz10_0 hcz10_1 hcz10_2 hcz10_3 hfz10_0 hfz10_1 hfz10_2 hfz10_3) | (go_at_call 101; (with_reducible refine (chart_span_glyph.calls a0_0 a0_1 a0_2 a0_3 a0_1 t521 _ A8.out).mono ?_); rintro e w11 ⟨rfl, hb⟩; replace BK520 := aK (blk_below (g := gb520) (o := .cells #[.int .i64 a0_0, .int .i64 a0_1, .int .i64 a0_2, .int .i64 a0_3] 91 (0, 0)) (by (with_reducible repeat (first | refine blk_drewN ?_ _ | refine blk_drew ?_ | refine blk_alloc ?_ _)); exact BK520.out) hb); replace HB := aK (below_step (bG GE520.out) hb); (try clear hb)))
       go_ret;exact ⟨eA, bG GE520.out⟩
      obtain rfl := Option.some.inj H;go_enter Tryz.func68, Tryz.ntmps68;go_wp2_with (first | ((with_reducible refine gate_dst (N := 1) rfl ?_); refine box4 1 91 a0_0 a0_1 a0_2 a0_3 ?_; clear HB; intro gb520 w12 BK520 GW520 GE520 HB hcz13_0 hcz13_1 hcz13_2 hcz13_3 hfz13_0 hfz13_1 hfz13_2 hfz13_3))
      go_ret;exact ⟨eA, bG GE520.out⟩
     obtain rfl := Option.some.inj H;go_enter Tryz.func68, Tryz.ntmps68;go_wp2_with (first | ((with_reducible refine gate_dst (N := 1) rfl ?_); refine box4 1 91 a0_0 a0_1 a0_2 a0_3 ?_; clear HB; intro gb520 w14 BK520 GW520 GE520 HB hcz15_0 hcz15_1 hcz15_2 hcz15_3 hfz15_0 hfz15_1 hfz15_2 hfz15_3))
     go_ret;exact ⟨eA, bG GE520.out⟩
    replace H := qF H;rcases H with ⟨c16b0, c16b1, H⟩ | ⟨c16b0, c16b1, H⟩
    ·
     replace H := qG H;rcases H with ⟨c17b0, H⟩ | ⟨c17b0, H⟩
     ·
      replace H := qL H;rcases H with ⟨c18b0, H⟩ | ⟨c18b0, H⟩
      ·
       replace H := qS H;obtain ⟨t522, A19, H⟩ := H;obtain rfl := Option.some.inj H;go_enter Tryz.func68, Tryz.ntmps68;go_wp2_with (first | ((with_reducible refine gate_dst (N := 1) rfl ?_); refine box4 1 91 a0_0 a0_1 a0_2 a0_3 ?_; clear HB; intro gb520 w20 BK520 GW520 GE520 HB hcz21_0 hcz21_1 hcz21_2 hcz21_3 hfz21_0 hfz21_1 hfz21_2 hfz21_3) | (go_at_call 101; (with_reducible refine (chart_span_glyph.calls a0_0 a0_1 a0_2 a0_3 a0_1 t522 _ A19.out).mono ?_); rintro e w22 ⟨rfl, hb⟩; replace BK520 := aK (blk_below (g := gb520) (o := .cells #[.int .i64 a0_0, .int .i64 a0_1, .int .i64 a0_2, .int .i64 a0_3] 91 (0, 0)) (by (with_reducible repeat (first | refine blk_drewN ?_ _ | refine blk_drew ?_ | refine blk_alloc ?_ _)); exact BK520.out) hb); replace HB := aK (below_step (bG GE520.out) hb); (try clear hb)))
       go_ret;exact ⟨eA, bG GE520.out⟩
      obtain rfl := Option.some.inj H;go_enter Tryz.func68, Tryz.ntmps68;go_wp2_with (first | ((with_reducible refine gate_dst (N := 1) rfl ?_); refine box4 1 91 a0_0 a0_1 a0_2 a0_3 ?_; clear HB; intro gb520 w23 BK520 GW520 GE520 HB hcz24_0 hcz24_1 hcz24_2 hcz24_3 hfz24_0 hfz24_1 hfz24_2 hfz24_3))
      go_ret;exact ⟨eA, bG GE520.out⟩
     obtain rfl := Option.some.inj H;go_enter Tryz.func68, Tryz.ntmps68;go_wp2_with (first | ((with_reducible refine gate_dst (N := 1) rfl ?_); refine box4 1 91 a0_0 a0_1 a0_2 a0_3 ?_; clear HB; intro gb520 w25 BK520 GW520 GE520 HB hcz26_0 hcz26_1 hcz26_2 hcz26_3 hfz26_0 hfz26_1 hfz26_2 hfz26_3))
     go_ret;exact ⟨eA, bG GE520.out⟩
    obtain rfl := Option.some.inj H;go_enter Tryz.func68, Tryz.ntmps68;go_wp2_with (first | ((with_reducible refine gate_dst (N := 1) rfl ?_); refine box4 1 91 a0_0 a0_1 a0_2 a0_3 ?_; clear HB; intro gb520 w27 BK520 GW520 GE520 HB hcz28_0 hcz28_1 hcz28_2 hcz28_3 hfz28_0 hfz28_1 hfz28_2 hfz28_3))
    go_ret;exact ⟨eA, bG GE520.out⟩
   obtain rfl := Option.some.inj H;go_enter Tryz.func68, Tryz.ntmps68;go_wp2_with (first | ((with_reducible refine gate_dst (N := 1) rfl ?_); refine box4 1 91 a0_0 a0_1 a0_2 a0_3 ?_; clear HB; intro gb520 w29 BK520 GW520 GE520 HB hcz30_0 hcz30_1 hcz30_2 hcz30_3 hfz30_0 hfz30_1 hfz30_2 hfz30_3))
   go_ret;exact ⟨eA, bG GE520.out⟩
  obtain rfl := Option.some.inj H;go_enter Tryz.func68, Tryz.ntmps68;go_wp2_with (first | ((with_reducible refine gate_dst (N := 1) rfl ?_); refine box4 1 91 a0_0 a0_1 a0_2 a0_3 ?_; clear HB; intro gb520 w31 BK520 GW520 GE520 HB hcz32_0 hcz32_1 hcz32_2 hcz32_3 hfz32_0 hfz32_1 hfz32_2 hfz32_3))
  go_ret;exact ⟨eA, bG GE520.out⟩
 obtain rfl := Option.some.inj H;go_enter Tryz.func68, Tryz.ntmps68;go_wp2_with (first | ((with_reducible refine gate_dst (N := 1) rfl ?_); refine box4 1 91 a0_0 a0_1 a0_2 a0_3 ?_; clear HB; intro gb520 w33 BK520 GW520 GE520 HB hcz34_0 hcz34_1 hcz34_2 hcz34_3 hfz34_0 hfz34_1 hfz34_2 hfz34_3))
 go_ret;exact ⟨eA, bG GE520.out⟩
end Go.Proofs.YtejdflndgnpkcaaGreat.P
end
