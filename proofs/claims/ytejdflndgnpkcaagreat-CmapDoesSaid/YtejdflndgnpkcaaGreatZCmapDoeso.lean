/- Words, contracts and plain facts of the proof. Each says its own condition. -/
import Derived.Test.YtejdflndgnpkcaaGreatZCmapDoesl
import Derived.Test.YtejdflndgnpkcaaGreatZCmapDoesn
import Derived.Test.YtejdflndgnpkcaaGreatZCmapDoese
set_option linter.unusedVariables false
set_option maxRecDepth 100000
set_option linter.unusedSimpArgs false
set_option maxHeartbeats 16000000
namespace Go.Proofs.YtejdflndgnpkcaaGreat.P
open Go.RowKit PW PL PM
def headT (a m : Int) : List UInt8 := bytesN 6 2 ++ (bytesN (10 + 2 * m) 2 ++ (bytesN 0 2 ++ (bytesN a 2 ++ (bytesN m 2 ++ []))))
def glyphsT (l : List S61) (a : Int) (m : Nat) : List UInt8 := (List.range m).flatMap (fun (i : Nat) => bytesN (lookN l (a + (i : Int))) 2)
def manyT (a b : Int) (z : Bool) : Int := if z = true then b - a + 1 else 0
def trimN (l : List S61) : ByteArray × Int :=
 if isL l = false then (⟨#[]⟩, 1)
 else if 65535 < (endsN l).2.1 ∨ 32762 < manyT (endsN l).1 (endsN l).2.1 (endsN l).2.2 then (⟨#[]⟩, 7)
 else (⟨(headT (endsN l).1 (manyT (endsN l).1 (endsN l).2.1 (endsN l).2.2) ++ glyphsT l (endsN l).1 (manyT (endsN l).1 (endsN l).2.1 (endsN l).2.2).toNat).toArray⟩, 0)
theorem fits2 {v : Int} (h0 : 0 ≤ v) (h1 : v ≤ 65535) : fitsN v 2 = true := by
 unfold fitsN;have e : (256 : Int) ^ (2 : Int).natAbs = 65536 := by decide
 rw [if_neg (by decide), e];exact decide_eq_true (by omega)
theorem head_put {a m : Int} (h0 : 0 ≤ a) (h1 : a ≤ 65535) (h2 : 0 ≤ m) (h3 : m ≤ 32762) : bin_Put.f [2, 2, 2, 2, 2] [6, 10 + 2 * m, 0, a, m] = some (⟨(headT a m).toArray⟩, 0) := by
  unfold bin_Put.f;rw [if_pos (by decide)];congr 1
  unfold putN
  rw [if_neg (by rintro (h | h); · exact absurd h (by decide)
                 · exact h rfl)]
  simp only [puts];rw [if_pos (fits2 (by omega) (by omega)), if_pos (fits2 (by omega) (by omega)), if_pos (fits2 (by omega) (by omega)), if_pos (fits2 h0 h1), if_pos (fits2 h2 (by omega))];rfl
theorem headT_length (a m : Int) : (headT a m).length = 10 := by
 unfold headT;simp [bytesN_length]
theorem glyphsT_length (l : List S61) (a : Int) (m : Nat) : (glyphsT l a m).length = 2 * m := by
 unfold glyphsT;induction m with
 | zero => rfl
 | succ m ih =>
  rw [List.range_succ, List.flatMap_append, List.length_append, ih, List.flatMap_singleton, bytesN_length];omega
theorem glyphsT_succ (l : List S61) (a : Int) (m : Nat) : glyphsT l a (m + 1) = glyphsT l a m ++ bytesN (lookN l (a + (m : Int))) 2 := by
 unfold glyphsT;rw [List.range_succ, List.flatMap_append, List.flatMap_singleton]
theorem bytesN_two (g : Int) : bytesN g 2 = [byteOf g 1, byteOf g 0] := rfl
theorem byte_hi (g : Int) (h0 : 0 ≤ g) (h1 : g ≤ 65535) : ((byteOf g 1).toNat : Int) = g / 256 := by
 rw [byteOf_nat];have e : (256 : Int) ^ 1 = 256 := by decide
 rw [e]; omega
theorem byte_lo (g : Int) : ((byteOf g 0).toNat : Int) = g % 256 := by
 rw [byteOf_nat];have e : (256 : Int) ^ 0 = 1 := by decide
 rw [e]; omega
theorem trim_walk (A0 : Option Addr) (c0 : Nat) (l : List S61) (w : World) (hr0 : Kd.C k61 w A0 l.length l) (hc0 : l.length ≤ c0) (hi : isL l = true) (r : ByteArray × Int) (hr : trimN l = r) :
  Calls Tryz.prog 53 #[.slice A0 l.length c0] w fun e w' => e = .returned (.tuple #[.string r.1, .int .i64 r.2]) ∧ Below w.heap.size w w' := by
 have hz := (zero_of_info (P := Tryz.prog) (t := 83) (v := .agg #[.pointer none, .slice none 0 0]) (n := 2) (by kernel_rfl)).1;obtain ⟨a, b, z, he⟩ : ∃ a b z, endsN l = (a, b, z) := ⟨_, _, _, rfl⟩
 have hin : 0 ≤ a ∧ a ≤ 1114111 ∧ b ≤ 1114111 ∧ 0 ≤ b ∧ (z = true → a ≤ b) ∧ (z = false → a = 0 ∧ b = 0) := by
  obtain ⟨_, h1, h2⟩ := isL_all hi;rcases ends_in l h1 h2 with ⟨h3, _⟩ | ⟨a', b', h3, h4, h5, h6⟩
  ·
   rw [he] at h3;obtain ⟨rfl, h4⟩ := Prod.mk.inj h3;obtain ⟨rfl, rfl⟩ := Prod.mk.inj h4;exact ⟨by omega, by omega, by omega, by omega, fun h => absurd h (by decide), fun _ => ⟨rfl, rfl⟩⟩
  rw [he] at h3;obtain ⟨rfl, h7⟩ := Prod.mk.inj h3;obtain ⟨rfl, rfl⟩ := Prod.mk.inj h7;exact ⟨by omega, by omega, by omega, by omega, fun _ => h5, fun h => absurd h (by decide)⟩
 have H1 := hI (fun W hW => chart_Is.calls A0 c0 l true W (Kd.C_below hr0 hW) hc0 (by unfold chart_Is.f; rw [hi]));have H2 := hI (fun W hW => chart_ends.calls A0 c0 l a b z W (Kd.C_below hr0 hW) hc0 (by unfold chart_ends.f; rw [he]));obtain ⟨m, hm⟩ : ∃ m, m = manyT a b z := ⟨_, rfl⟩
 have hm2 : 0 ≤ m ∧ m ≤ 1114112 := by
  rw [hm]; unfold manyT;cases z with
  | true => rw [if_pos rfl]; have := hin.2.2.2.2.1 rfl; omega
  | false => rw [if_neg Bool.false_ne_true]; omega
 have HR0 := hI hr0;have HC0 := hI hc0;have HL := hI (isL_all hi).1
 have HR := hI (show (if 65535 < b ∨ 32762 < m then (⟨#[]⟩, 7) else (⟨(headT a m ++ glyphsT l a m.toNat).toArray⟩, 0)) = r by
  rw [← hr]; unfold trimN;rw [hi, if_neg (show ¬ (true = false) by decide), he, hm])
 have HI := hI hi;have HM := hI hm;have HM2 := hI hm2;have HIN := hI hin;have w1_ : wrap64 (b - a) = b - a := by unfold wrap64; omega
 have w3_ : wrap64 (2 * m) = 2 * m := by unfold wrap64; omega
 have w4_ : wrap64 (10 + 2 * m) = 10 + 2 * m := by unfold wrap64; omega
 clear hr0 hc0 hr he hi hm2 hin;cases z with
 | true =>
  have HAB := hI (show 0 ≤ a ∧ a ≤ b ∧ a ≤ 1114111 from ⟨HIN.out.1, HIN.out.2.2.2.2.1 rfl, HIN.out.2.1⟩);have hmm : b - a + 1 = m := by rw [hm]; rfl
  have w2_ : wrap64 (b - a + 1) = m := by rw [← hmm]; have := HIN.out; unfold wrap64; omega
  clear hm hmm;by_cases hbad : 65535 < b ∨ 32762 < m
  ·
   have HRE := hI (show r = (⟨#[]⟩, 7) by rw [← HR.out, if_pos hbad]);by_cases h1 : 65535 < b
   ·
    have d1 : decide ((65535 : Int) < b) = true := decide_eq_true h1;clear hbad h1 w3_ w4_;go_enter Tryz.func53, Tryz.ntmps53;go_wp2_with fail
    refine (H1.out _ (Below.refl _ _)).mono ?_;rintro e w1 ⟨rfl, hb⟩;have HB1 := hI hb;clear hb;go_wp2_with fail
    refine (H2.out _ HB1.out).mono ?_;rintro e w2 ⟨rfl, hb⟩;have HB2 := hI (HB1.out.trans (hb.mono HB1.out.size));clear hb;go_wp2;go_ret2;rw [HRE.out];exact ⟨rfl, HB2.out⟩
   have d1 : decide ((65535 : Int) < b) = false := decide_eq_false h1;have d2 : decide ((32762 : Int) < m) = true := decide_eq_true (hbad.resolve_left h1);clear hbad h1 w3_ w4_;go_enter Tryz.func53, Tryz.ntmps53;go_wp2_with fail
   refine (H1.out _ (Below.refl _ _)).mono ?_;rintro e w1 ⟨rfl, hb⟩;have HB1 := hI hb;clear hb;go_wp2_with fail
   refine (H2.out _ HB1.out).mono ?_;rintro e w2 ⟨rfl, hb⟩;have HB2 := hI (HB1.out.trans (hb.mono HB1.out.size));clear hb;go_wp2;go_ret2;rw [HRE.out];exact ⟨rfl, HB2.out⟩
  have d1 : decide ((65535 : Int) < b) = false := decide_eq_false (by omega);have d2 : decide ((32762 : Int) < m) = false := decide_eq_false (by omega);have HRE := hI (show r = (⟨(headT a m ++ glyphsT l a m.toNat).toArray⟩, 0) by rw [← HR.out, if_neg hbad]);have HBD := hI (show b ≤ 65535 ∧ m ≤ 32762 by omega);clear hbad;go_enter Tryz.func53, Tryz.ntmps53;go_wp2_with fail
  refine (H1.out _ (Below.refl _ _)).mono ?_;rintro e w1 ⟨rfl, hb⟩;have HB1 := hI hb;clear hb;go_wp2_with fail
  refine (H2.out _ HB1.out).mono ?_;rintro e w2 ⟨rfl, hb⟩;have HB2 := hI (HB1.out.trans (hb.mono HB1.out.size));clear hb;go_wp2_with fail
  have e0 : (w2.alloc (.cells #[.pointer none, .slice none 0 0] 83)).heap[w2.heap.size]? = some (.cells #[.pointer none, .slice none 0 0] 83 (0, 0)) := (MapKept.heap_alloc w2 _).1;have HP0 := hI (show PutW w w2.heap.size (w2.alloc (.cells #[.pointer none, .slice none 0 0] 83)) [] from ⟨.inl ⟨HB2.out.size, _, e0, World.ownsRow_nil _ _ _ _, by simp [Value.ownBlock]⟩, fun _ => ⟨_, e0⟩, HB2.out.alloc HB2.out.size _⟩);obtain ⟨w3, hw3⟩ : ∃ w3, w3 = w2.alloc (.cells #[.pointer none, .slice none 0 0] 83) := ⟨_, rfl⟩;have hsz3 : w2.heap.size + 1 = w3.heap.size := by rw [hw3]; simp
  obtain ⟨g, hg⟩ : ∃ g, g = w2.heap.size := ⟨_, rfl⟩;rw [hsz3, ← hw3, ← hg];rw [← hw3, ← hg] at HP0;have C1 := Kd.C_alloc (lit_C w3 [2, 2, 2, 2, 2] (by decide)) (.cells (([6, 10 + 2 * m, 0, a, m] : List Int).map (Value.int .i64)).toArray 3);have C2 := lit_C (w3.alloc (.cells (([2, 2, 2, 2, 2] : List Int).map (Value.int .i64)).toArray 3)) [6, 10 + 2 * m, 0, a, m] (by simp [maxLen]);rw [World.size_alloc] at C2;refine (bin_Put.calls _ 5 [2, 2, 2, 2, 2] _ 5 [6, 10 + 2 * m, 0, a, m] _ _ _ C1 (Nat.le_refl _) C2 (Nat.le_refl _) (head_put HAB.out.1 (by have := HAB.out; have := HBD.out; omega) HM2.out.1 HBD.out.2)).mono ?_;rintro e w4 ⟨rfl, hb⟩;have hb3 := (((Below.refl w3.heap.size w3).alloc (Nat.le_refl _) (.cells (([2, 2, 2, 2, 2] : List Int).map (Value.int .i64)).toArray 3)).alloc (by simp) (.cells (([6, 10 + 2 * m, 0, a, m] : List Int).map (Value.int .i64)).toArray 3));have HP1 := hI (HP0.out.below (hb3.trans (hb.mono hb3.size)));obtain ⟨H, hH⟩ : ∃ H : ByteArray, H = ⟨(headT a m).toArray⟩ := ⟨_, rfl⟩;have HHS := hI (show H.size = 10 by rw [hH]; simp [ByteArray.size, headT_length]);have HHL := hI (show H.data.toList = headT a m by rw [hH]);rw [← hH];clear C1 C2 hb hb3 hw3 hg hsz3 e0 hH HP0;go_wp2_with fail
  refine (writeString_calls w.heap.size g _ H _ HP1.out.b (by rw [HHS.out]; decide) (by rw [HHS.out]; simp [Lib.byteCells]) HP1.out.hB.size).mono ?_;rintro e w5 ⟨rfl, hbb, hb, _⟩
  have HP2 := hI (show PutW w g w5 (headT a m) by
   have := HP1.out.wroteS H (by rw [HHS.out]; decide) hbb hb;rwa [HHL.out, List.nil_append] at this)
  clear hbb hb HP1;obtain ⟨n, hn⟩ := Int.eq_ofNat_of_zero_le HM2.out.1;have hn2 : n ≤ 32762 := by have := HBD.out; omega
  have HN := hI hn;have HN2 := hI hn2;have e5 : Value.int IntKind.i64 m = .int .i64 (n : Int) := by rw [hn]
  clear hn hn2;rw [e5];clear e5;go_wp2_with fail
  go_loopw [48] (fun v48 wr => ∃ (i : Nat), i ≤ n ∧ v48 = .int .i64 (i : Int) ∧ Aside0 (PutW w g wr (headT a m ++ glyphsT l a i))) (fun v48 _ => n - (intOf v48).toNat)
  case atStart => exact ⟨0, Nat.zero_le _, rfl, ⟨by have := HP2.out; simpa [glyphsT] using this⟩⟩
  case round =>
   obtain ⟨i, hi, rfl, HW⟩ := hrel;by_cases hlt : i < n
   ·
    have d3 : decide ((i : Int) < (n : Int)) = true := decide_eq_true (by omega);have d4 : decide (i < n) = true := decide_eq_true hlt;have hwi : wrap64 ((i : Int) + 1) = ((i + 1 : Nat) : Int) := by have := HN2.out; unfold wrap64; omega
    have hwa : wrap64 (a + (i : Int)) = a + (i : Int) := by have := HN2.out; have := HAB.out; unfold wrap64; omega
    have HLT := hI hlt;clear hlt;go_wp2_with fail
    rw [hwa];refine (chart_look.calls A0 c0 l (a + (i : Int)) (lookN l (a + (i : Int))) _ (Kd.C_below HR0.out HW.out.hB) HC0.out (by unfold chart_look.f; rw [if_pos HL.out])).mono ?_;rintro e w6 ⟨rfl, hb⟩;have HW1 := hI (HW.out.below hb);obtain ⟨q, hq⟩ : ∃ q, q = lookN l (a + (i : Int)) := ⟨_, rfl⟩;have hbd := look_bd HI.out (a + (i : Int));rw [← hq] at hbd ⊢;have HQ := hI hq;have HBQ := hI hbd;have q0 := hbd.1;have q1 := hbd.2;clear hb hq hbd;go_wp2_with fail
    have hlen : (headT a m ++ glyphsT l a i).length = 10 + 2 * i := by rw [List.length_append, headT_length, glyphsT_length]
    have HLN := hI (show (headT a m ++ glyphsT l a i).length ≤ 70000 by rw [hlen]; have := HLT.out; have := HN2.out; omega);obtain ⟨bs, hbs⟩ : ∃ bs, bs = headT a m ++ glyphsT l a i := ⟨_, rfl⟩;rw [← hbs] at HW1 HLN;have HBS := hI hbs;clear hlen hbs;refine (writeByte_calls w.heap.size g (Lib.byteCells bs) (q / 256) _ HW1.out.b (by rw [Lib.byteCells_length]; have := HLN.out; omega) HW1.out.hB.size).mono ?_;rintro e w7 ⟨rfl, hbb, hb⟩;have HW2 := hI (show PutW w g w7 (bs ++ [byteOf q 1]) from HW1.out.wrote (byteOf q 1) (by rw [byte_hi q HBQ.out.1 HBQ.out.2]; exact hbb) hb);clear hbb hb HW1;go_wp2_with fail
    refine (writeByte_calls w.heap.size g (Lib.byteCells (bs ++ [byteOf q 1])) (q % 256) _ HW2.out.b (by rw [Lib.byteCells_length, List.length_append]; have := HLN.out; simp; omega) HW2.out.hB.size).mono ?_;rintro e w8 ⟨rfl, hbb, hb⟩;have HW3 := hI (show PutW w g w8 ((bs ++ [byteOf q 1]) ++ [byteOf q 0]) from HW2.out.wrote (byteOf q 0) (by rw [byte_lo q]; exact hbb) hb)
    have HW4 := hI (show PutW w g w8 (headT a m ++ glyphsT l a (i + 1)) by
     have := HW3.out;rw [HBS.out] at this;rw [glyphsT_succ, ← HQ.out, bytesN_two];simpa using this)
    clear hbb hb HW2 HW3;go_wp2;go_roundw
    case rel => exact ⟨i + 1, HLT.out, by rw [hwi], ⟨HW4.out⟩⟩
    case measure => rw [hwi]; exact less_step (by decide) HLT.out
   have hie : i = n := by omega
   subst hie;have d3 : decide ((i : Int) < (i : Int)) = false := decide_eq_false (by omega);have d4 : decide (i < i) = false := decide_eq_false (by omega);obtain ⟨bs, hbs⟩ : ∃ bs, bs = headT a m ++ glyphsT l a i := ⟨_, rfl⟩;have hW := HW.out;rw [← hbs] at hW;have HW1 := hI hW
   have hne : bs ≠ [] := by
    intro e;have h2 : bs.length = 10 + 2 * i := by rw [hbs, List.length_append, headT_length, glyphsT_length]
    rw [e, List.length_nil] at h2;omega
   have HNE := hI hne
   have hres : r = (⟨bs.toArray⟩, 0) := by
    rw [HRE.out, hbs, HN.out, Int.toNat_natCast]
   have HRES := hI hres;clear hbs hW hne hlt hres;go_wp2_with fail
   refine (string_calls w.heap.size g bs _ HW1.out.b HNE.out).mono ?_;rintro e w9 ⟨rfl, hb⟩;have HB9 := hI (HW1.out.hB.trans hb);clear hb;go_wp2;go_ret2;rw [HRES.out];exact ⟨rfl, HB9.out⟩
 | false =>
  have hab := HIN.out.2.2.2.2.2 rfl;obtain ⟨rfl, rfl⟩ := hab;have hm0 : m = 0 := by rw [hm]; rfl
  subst hm0;have HRE := hI (show r = (⟨(headT 0 0).toArray⟩, 0) by rw [← HR.out, if_neg (by decide)]; rfl);clear HR HM HM2 HIN w1_ w3_ w4_ hm;have w1_ : wrap64 ((0 : Int) - 0) = 0 := by decide +kernel
  go_enter Tryz.func53, Tryz.ntmps53;go_wp2_with fail
  refine (H1.out _ (Below.refl _ _)).mono ?_;rintro e w1 ⟨rfl, hb⟩;have HB1 := hI hb;clear hb;go_wp2_with fail
  refine (H2.out _ HB1.out).mono ?_;rintro e w2 ⟨rfl, hb⟩;have HB2 := hI (HB1.out.trans (hb.mono HB1.out.size));clear hb;go_wp2_with fail
  have e0 : (w2.alloc (.cells #[.pointer none, .slice none 0 0] 83)).heap[w2.heap.size]? = some (.cells #[.pointer none, .slice none 0 0] 83 (0, 0)) := (MapKept.heap_alloc w2 _).1;have HP0 := hI (show PutW w w2.heap.size (w2.alloc (.cells #[.pointer none, .slice none 0 0] 83)) [] from ⟨.inl ⟨HB2.out.size, _, e0, World.ownsRow_nil _ _ _ _, by simp [Value.ownBlock]⟩, fun _ => ⟨_, e0⟩, HB2.out.alloc HB2.out.size _⟩);obtain ⟨w3, hw3⟩ : ∃ w3, w3 = w2.alloc (.cells #[.pointer none, .slice none 0 0] 83) := ⟨_, rfl⟩;have hsz3 : w2.heap.size + 1 = w3.heap.size := by rw [hw3]; simp
  obtain ⟨g, hg⟩ : ∃ g, g = w2.heap.size := ⟨_, rfl⟩;rw [hsz3, ← hw3, ← hg];rw [← hw3, ← hg] at HP0;have C1 := Kd.C_alloc (lit_C w3 [2, 2, 2, 2, 2] (by decide)) (.cells (([6, 10, 0, 0, 0] : List Int).map (Value.int .i64)).toArray 3);have C2 := lit_C (w3.alloc (.cells (([2, 2, 2, 2, 2] : List Int).map (Value.int .i64)).toArray 3)) [6, 10, 0, 0, 0] (by decide);rw [World.size_alloc] at C2;refine (bin_Put.calls _ 5 [2, 2, 2, 2, 2] _ 5 [6, 10, 0, 0, 0] _ _ _ C1 (Nat.le_refl _) C2 (Nat.le_refl _) (head_put (a := 0) (m := 0) (by decide) (by decide) (by decide) (by decide))).mono ?_;rintro e w4 ⟨rfl, hb⟩;have hb3 := (((Below.refl w3.heap.size w3).alloc (Nat.le_refl _) (.cells (([2, 2, 2, 2, 2] : List Int).map (Value.int .i64)).toArray 3)).alloc (by simp) (.cells (([6, 10, 0, 0, 0] : List Int).map (Value.int .i64)).toArray 3));have HP1 := hI (HP0.out.below (hb3.trans (hb.mono hb3.size)));obtain ⟨H, hH⟩ : ∃ H : ByteArray, H = ⟨(headT 0 0).toArray⟩ := ⟨_, rfl⟩;have HHS := hI (show H.size = 10 by rw [hH]; simp [ByteArray.size, headT_length]);have HHL := hI (show H.data.toList = headT 0 0 by rw [hH]);rw [← hH];rw [← hH] at HRE;clear C1 C2 hb hb3 hw3 hg hsz3 e0 hH HP0;go_wp2_with fail
  refine (writeString_calls w.heap.size g _ H _ HP1.out.b (by rw [HHS.out]; decide) (by rw [HHS.out]; simp [Lib.byteCells]) HP1.out.hB.size).mono ?_;rintro e w5 ⟨rfl, hbb, hb, _⟩
  have HP2 := hI (show PutW w g w5 (headT 0 0) by
   have := HP1.out.wroteS H (by rw [HHS.out]; decide) hbb hb;rwa [HHL.out, List.nil_append] at this)
  clear hbb hb HP1;go_wp2_with fail
  go_loopw [48] (fun v48 wr => v48 = .int .i64 0 ∧ Aside0 (PutW w g wr (headT 0 0))) (fun v48 _ => 0)
  case atStart => exact ⟨rfl, ⟨HP2.out⟩⟩
  case round =>
   obtain ⟨rfl, HW⟩ := hrel
   have hne : headT 0 0 ≠ [] := by
    intro e;have h2 := headT_length 0 0;rw [e, List.length_nil] at h2;omega
   have HNE := hI hne;have hHH : H = ⟨(headT 0 0).toArray⟩ := by rw [← HHL.out]
   have HHH := hI hHH;clear hne hHH;go_wp2_with fail
   refine (string_calls w.heap.size g (headT 0 0) _ HW.out.b HNE.out).mono ?_;rintro e w9 ⟨rfl, hb⟩;have HB9 := hI (HW.out.hB.trans hb);clear hb;rw [← HHH.out];go_wp2;go_ret2;rw [HRE.out];exact ⟨rfl, HB9.out⟩
theorem trim_arg (A0 : Option Addr) (c0 : Nat) (l : List S61) (w : World) (hr0 : Kd.C k61 w A0 l.length l) (hc0 : l.length ≤ c0) (hi : isL l = false) :
  Calls Tryz.prog 53 #[.slice A0 l.length c0] w fun e w' => e = .returned (.tuple #[.string ⟨#[]⟩, .int .i64 1]) ∧ Below w.heap.size w w' := by
 have H1 := hI (chart_Is.calls A0 c0 l false w hr0 hc0 (by unfold chart_Is.f; rw [hi]));clear hr0 hc0 hi;go_enter Tryz.func53, Tryz.ntmps53;go_wp2_with fail
 refine H1.out.mono ?_;rintro e w1 ⟨rfl, hb⟩;have HB1 := hI hb;clear hb;go_wp2;go_ret2;exact ⟨rfl, HB1.out⟩
def chart_PutTrimmed.f (l0 : List S61) : Option (ByteArray × Int) := some (trimN l0)
theorem chart_PutTrimmed.calls (A0 : Option Addr) (c0 : Nat) (l0 : List S61) (r1 : ByteArray) (r2 : Int) (w : World) (hr0 : Kd.C k61 w A0 l0.length l0) (hc0 : l0.length ≤ c0) (h : chart_PutTrimmed.f l0 = some (r1, r2)) :
  Calls Tryz.prog 53 #[.slice A0 l0.length c0] w fun e w' => e = .returned (.tuple #[.string r1, .int .i64 r2]) ∧ Below w.heap.size w w' := by
 have hr := Option.some.inj h;cases hi : isL l0 with
 | true => exact trim_walk A0 c0 l0 w hr0 hc0 hi (r1, r2) hr
 | false =>
  unfold trimN at hr;rw [hi, if_pos rfl] at hr;obtain ⟨rfl, rfl⟩ := Prod.mk.inj hr;exact trim_arg A0 c0 l0 w hr0 hc0 hi
end Go.Proofs.YtejdflndgnpkcaaGreat.P
