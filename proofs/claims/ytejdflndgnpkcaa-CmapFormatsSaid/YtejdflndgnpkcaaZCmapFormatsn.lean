/- Words, contracts and plain facts of the proof. Each says its own condition. -/
import Derived.Test.YtejdflndgnpkcaaZCmapFormatsk
import Derived.Test.YtejdflndgnpkcaaZCmapFormatsm
import Derived.Test.YtejdflndgnpkcaaZCmapFormatsf
import Derived.Test.YtejdflndgnpkcaaZCmapFormatsg
import Derived.Test.YtejdflndgnpkcaaZCmapFormatse
import Derived.Test.YtejdflndgnpkcaaZCmapFormatsl
import Derived.Test.YtejdflndgnpkcaaZCmapFormatsh
set_option linter.unusedVariables false
set_option linter.unusedSimpArgs false
section
namespace Go.Proofs.Ytejdflndgnpkcaa.P
open Go.RowKit Go.Proofs.YtejdflndgnpkcaaW.PrintWords Go.Proofs.YtejdflndgnpkcaaW.PrintLast Go.Proofs.YtejdflndgnpkcaaW.PrintMore
def headT (a m : Int) : List UInt8 := bytesN 6 2 ++ (bytesN (10 + 2 * m) 2 ++ (bytesN 0 2 ++ (bytesN a 2 ++ (bytesN m 2 ++ []))))
def glyphsT (l : List S50) (a : Int) (m : Nat) : List UInt8 := (List.range m).flatMap (fun (i : Nat) => bytesN (lookN l (a + (i : Int))) 2)
def manyT (a b : Int) (z : Bool) : Int := if z = true then b - a + 1 else 0
def trimN (l : List S50) : ByteArray × Int :=
 if isL l = false then (⟨#[]⟩, 1)
 else if 65535 < (endsN l).2.1 ∨ 32762 < manyT (endsN l).1 (endsN l).2.1 (endsN l).2.2 then (⟨#[]⟩, 7)
 else (⟨(headT (endsN l).1 (manyT (endsN l).1 (endsN l).2.1 (endsN l).2.2) ++ glyphsT l (endsN l).1 (manyT (endsN l).1 (endsN l).2.1 (endsN l).2.2).toNat).toArray⟩, 0)
theorem fits2 {v : Int} (h0 : 0 ≤ v) (h1 : v ≤ 65535) : fitsN v 2 = true := by
 unfold fitsN
 have e : (256 : Int) ^ (2 : Int).natAbs = 65536 := by decide
 rw [if_neg (by decide), e]
 exact decide_eq_true (by omega)
theorem head_put {a m : Int} (h0 : 0 ≤ a) (h1 : a ≤ 65535) (h2 : 0 ≤ m) (h3 : m ≤ 32762) : bin_Put.f [2, 2, 2, 2, 2] [6, 10 + 2 * m, 0, a, m] = some (⟨(headT a m).toArray⟩, 0) := by
  unfold bin_Put.f
  rw [if_pos (by decide)]
  congr 1
  unfold putN
  rw [if_neg (by rintro (h | h); · exact absurd h (by decide)
                 · exact h rfl)]
  simp only [puts]
  rw [if_pos (fits2 (by omega) (by omega)), if_pos (fits2 (by omega) (by omega)), if_pos (fits2 (by omega) (by omega)), if_pos (fits2 h0 h1), if_pos (fits2 h2 (by omega))]
  rfl
theorem headT_length (a m : Int) : (headT a m).length = 10 := by
 unfold headT
 simp [bytesN_length]
theorem glyphsT_length (l : List S50) (a : Int) (m : Nat) : (glyphsT l a m).length = 2 * m := by
 unfold glyphsT
 induction m with
 | zero => rfl
 | succ m ih =>
  rw [List.range_succ, List.flatMap_append, List.length_append, ih, List.flatMap_singleton, bytesN_length]
  omega
theorem glyphsT_succ (l : List S50) (a : Int) (m : Nat) : glyphsT l a (m + 1) = glyphsT l a m ++ bytesN (lookN l (a + (m : Int))) 2 := by
 unfold glyphsT
 rw [List.range_succ, List.flatMap_append, List.flatMap_singleton]
theorem bytesN_two (g : Int) : bytesN g 2 = [byteOf g 1, byteOf g 0] := rfl
theorem byte_hi (g : Int) (h0 : 0 ≤ g) (h1 : g ≤ 65535) : ((byteOf g 1).toNat : Int) = g / 256 := by
 rw [byteOf_nat]
 have e : (256 : Int) ^ 1 = 256 := by decide
 rw [e]; omega
theorem byte_lo (g : Int) : ((byteOf g 0).toNat : Int) = g % 256 := by
 rw [byteOf_nat]
 have e : (256 : Int) ^ 0 = 1 := by decide
 rw [e]; omega
set_option maxRecDepth 100000 in
set_option maxHeartbeats 4000000 in
theorem trim_walk (A0 : Option Addr) (c0 : Nat) (l : List S50) (w : World) (hr0 : Kd.C k50 w A0 l.length l) (hc0 : l.length ≤ c0) (hi : isL l = true) (r : ByteArray × Int) (hr : trimN l = r) :
  Calls Try.prog 43 #[.slice A0 l.length c0] w fun e w' => e = .returned (.tuple #[.string r.1, .int .i64 r.2]) ∧ Below w.heap.size w w' := by
 have hz := (zero_of_info (P := Try.prog) (t := 77) (v := .agg #[.pointer none, .slice none 0 0]) (n := 2) (by kernel_rfl)).1
 obtain ⟨a, b, z, he⟩ : ∃ a b z, endsN l = (a, b, z) := ⟨_, _, _, rfl⟩
 have hin : 0 ≤ a ∧ a ≤ 1114111 ∧ b ≤ 1114111 ∧ 0 ≤ b ∧ (z = true → a ≤ b) ∧ (z = false → a = 0 ∧ b = 0) := by
  obtain ⟨_, h1, h2⟩ := isL_all hi
  rcases ends_in l h1 h2 with ⟨h3, _⟩ | ⟨a', b', h3, h4, h5, h6⟩
  ·
   rw [he] at h3
   obtain ⟨rfl, h4⟩ := Prod.mk.inj h3
   obtain ⟨rfl, rfl⟩ := Prod.mk.inj h4
   exact ⟨by omega, by omega, by omega, by omega, fun h => absurd h (by decide), fun _ => ⟨rfl, rfl⟩⟩
  ·
   rw [he] at h3
   obtain ⟨rfl, h7⟩ := Prod.mk.inj h3
   obtain ⟨rfl, rfl⟩ := Prod.mk.inj h7
   exact ⟨by omega, by omega, by omega, by omega, fun _ => h5, fun h => absurd h (by decide)⟩
 have H1 := Lib.hid (fun W hW => chart_Is.calls A0 c0 l true W (Kd.C_below hr0 hW) hc0 (by unfold chart_Is.f; rw [hi]))
 have H2 := Lib.hid (fun W hW => chart_ends.calls A0 c0 l a b z W (Kd.C_below hr0 hW) hc0 (by unfold chart_ends.f; rw [he]))
 obtain ⟨m, hm⟩ : ∃ m, m = manyT a b z := ⟨_, rfl⟩
 have hm2 : 0 ≤ m ∧ m ≤ 1114112 := by
  rw [hm]; unfold manyT
  cases z with
  | true => rw [if_pos rfl]; have := hin.2.2.2.2.1 rfl; omega
  | false => rw [if_neg Bool.false_ne_true]; omega
 have HR0 := Lib.hid hr0
 have HC0 := Lib.hid hc0
 have HL := Lib.hid (isL_all hi).1
 have HR := Lib.hid (show (if 65535 < b ∨ 32762 < m then (⟨#[]⟩, 7) else (⟨(headT a m ++ glyphsT l a m.toNat).toArray⟩, 0)) = r by
  rw [← hr]; unfold trimN
  rw [hi, if_neg (show ¬ (true = false) by decide), he, hm])
 have HI := Lib.hid hi
 have HM := Lib.hid hm
 have HM2 := Lib.hid hm2
 have HIN := Lib.hid hin
 have w1_ : wrap64 (b - a) = b - a := by unfold wrap64; omega
 have w3_ : wrap64 (2 * m) = 2 * m := by unfold wrap64; omega
 have w4_ : wrap64 (10 + 2 * m) = 10 + 2 * m := by unfold wrap64; omega
 clear hr0 hc0 hr he hi hm2 hin
 cases z with
 | true =>
  have HAB := Lib.hid (show 0 ≤ a ∧ a ≤ b ∧ a ≤ 1114111 from ⟨HIN.out.1, HIN.out.2.2.2.2.1 rfl, HIN.out.2.1⟩)
  have hmm : b - a + 1 = m := by rw [hm]; rfl
  have w2_ : wrap64 (b - a + 1) = m := by rw [← hmm]; have := HIN.out; unfold wrap64; omega
  clear hm hmm
  by_cases hbad : 65535 < b ∨ 32762 < m
  ·
   have HRE := Lib.hid (show r = (⟨#[]⟩, 7) by rw [← HR.out, if_pos hbad])
   by_cases h1 : 65535 < b
   ·
    have d1 : decide ((65535 : Int) < b) = true := decide_eq_true h1
    clear hbad h1 w3_ w4_
    go_enter Try.func43, Try.ntmps43
    go_wp2_with fail
    refine (H1.out _ (Below.refl _ _)).mono ?_
    rintro e w1 ⟨rfl, hb⟩
    have HB1 := Lib.hid hb
    clear hb
    go_wp2_with fail
    refine (H2.out _ HB1.out).mono ?_
    rintro e w2 ⟨rfl, hb⟩
    have HB2 := Lib.hid (HB1.out.trans (hb.mono HB1.out.size))
    clear hb
    go_wp2
    go_ret2
    rw [HRE.out]
    exact ⟨rfl, HB2.out⟩
   ·
    have d1 : decide ((65535 : Int) < b) = false := decide_eq_false h1
    have d2 : decide ((32762 : Int) < m) = true := decide_eq_true (hbad.resolve_left h1)
    clear hbad h1 w3_ w4_
    go_enter Try.func43, Try.ntmps43
    go_wp2_with fail
    refine (H1.out _ (Below.refl _ _)).mono ?_
    rintro e w1 ⟨rfl, hb⟩
    have HB1 := Lib.hid hb
    clear hb
    go_wp2_with fail
    refine (H2.out _ HB1.out).mono ?_
    rintro e w2 ⟨rfl, hb⟩
    have HB2 := Lib.hid (HB1.out.trans (hb.mono HB1.out.size))
    clear hb
    go_wp2
    go_ret2
    rw [HRE.out]
    exact ⟨rfl, HB2.out⟩
  ·
   have d1 : decide ((65535 : Int) < b) = false := decide_eq_false (by omega)
   have d2 : decide ((32762 : Int) < m) = false := decide_eq_false (by omega)
   have HRE := Lib.hid (show r = (⟨(headT a m ++ glyphsT l a m.toNat).toArray⟩, 0) by rw [← HR.out, if_neg hbad])
   have HBD := Lib.hid (show b ≤ 65535 ∧ m ≤ 32762 by omega)
   clear hbad
   go_enter Try.func43, Try.ntmps43
   go_wp2_with fail
   refine (H1.out _ (Below.refl _ _)).mono ?_
   rintro e w1 ⟨rfl, hb⟩
   have HB1 := Lib.hid hb
   clear hb
   go_wp2_with fail
   refine (H2.out _ HB1.out).mono ?_
   rintro e w2 ⟨rfl, hb⟩
   have HB2 := Lib.hid (HB1.out.trans (hb.mono HB1.out.size))
   clear hb
   go_wp2_with fail
   have e0 : (w2.alloc (.cells #[.pointer none, .slice none 0 0] 77)).heap[w2.heap.size]? = some (.cells #[.pointer none, .slice none 0 0] 77 (0, 0)) := (MapKept.heap_alloc w2 _).1
   have HP0 := Lib.hid (show PutW w w2.heap.size (w2.alloc (.cells #[.pointer none, .slice none 0 0] 77)) [] from ⟨.inl ⟨HB2.out.size, _, e0, World.ownsRow_nil _ _ _ _, by simp [Value.ownBlock]⟩, fun _ => ⟨_, e0⟩, HB2.out.alloc HB2.out.size _⟩)
   obtain ⟨w3, hw3⟩ : ∃ w3, w3 = w2.alloc (.cells #[.pointer none, .slice none 0 0] 77) := ⟨_, rfl⟩
   have hsz3 : w2.heap.size + 1 = w3.heap.size := by rw [hw3]; simp
   obtain ⟨g, hg⟩ : ∃ g, g = w2.heap.size := ⟨_, rfl⟩
   rw [hsz3, ← hw3, ← hg]
   rw [← hw3, ← hg] at HP0
   have C1 := Kd.C_alloc (lit_C w3 [2, 2, 2, 2, 2] (by decide)) (.cells (([6, 10 + 2 * m, 0, a, m] : List Int).map (Value.int .i64)).toArray 3)
   have C2 := lit_C (w3.alloc (.cells (([2, 2, 2, 2, 2] : List Int).map (Value.int .i64)).toArray 3)) [6, 10 + 2 * m, 0, a, m] (by simp [maxLen])
   rw [World.size_alloc] at C2
   refine (bin_Put.calls _ 5 [2, 2, 2, 2, 2] _ 5 [6, 10 + 2 * m, 0, a, m] _ _ _ C1 (Nat.le_refl _) C2 (Nat.le_refl _) (head_put HAB.out.1 (by have := HAB.out; have := HBD.out; omega) HM2.out.1 HBD.out.2)).mono ?_
   rintro e w4 ⟨rfl, hb⟩
   have hb3 := (((Below.refl w3.heap.size w3).alloc (Nat.le_refl _) (.cells (([2, 2, 2, 2, 2] : List Int).map (Value.int .i64)).toArray 3)).alloc (by simp) (.cells (([6, 10 + 2 * m, 0, a, m] : List Int).map (Value.int .i64)).toArray 3))
   have HP1 := Lib.hid (HP0.out.below (hb3.trans (hb.mono hb3.size)))
   obtain ⟨H, hH⟩ : ∃ H : ByteArray, H = ⟨(headT a m).toArray⟩ := ⟨_, rfl⟩
   have HHS := Lib.hid (show H.size = 10 by rw [hH]; simp [ByteArray.size, headT_length])
   have HHL := Lib.hid (show H.data.toList = headT a m by rw [hH])
   rw [← hH]
   clear C1 C2 hb hb3 hw3 hg hsz3 e0 hH HP0
   go_wp2_with fail
   refine (writeString_calls w.heap.size g _ H _ HP1.out.b (by rw [HHS.out]; decide) (by rw [HHS.out]; simp [Lib.byteCells]) HP1.out.hB.size).mono ?_
   rintro e w5 ⟨rfl, hbb, hb, _⟩
   have HP2 := Lib.hid (show PutW w g w5 (headT a m) by
    have := HP1.out.wroteS H (by rw [HHS.out]; decide) hbb hb
    rwa [HHL.out, List.nil_append] at this)
   clear hbb hb HP1
   obtain ⟨n, hn⟩ := Int.eq_ofNat_of_zero_le HM2.out.1
   have hn2 : n ≤ 32762 := by have := HBD.out; omega
   have HN := Lib.hid hn
   have HN2 := Lib.hid hn2
   have e5 : Value.int IntKind.i64 m = .int .i64 (n : Int) := by rw [hn]
   clear hn hn2
   rw [e5]
   clear e5
   go_wp2_with fail
   go_loopw [48] (fun v48 wr => ∃ (i : Nat), i ≤ n ∧ v48 = .int .i64 (i : Int) ∧ Aside0 (PutW w g wr (headT a m ++ glyphsT l a i))) (fun v48 _ => n - (intOf v48).toNat)
   case atStart => exact ⟨0, Nat.zero_le _, rfl, ⟨by have := HP2.out; simpa [glyphsT] using this⟩⟩
   case round =>
    obtain ⟨i, hi, rfl, HW⟩ := hrel
    by_cases hlt : i < n
    ·
     have d3 : decide ((i : Int) < (n : Int)) = true := decide_eq_true (by omega)
     have d4 : decide (i < n) = true := decide_eq_true hlt
     have hwi : wrap64 ((i : Int) + 1) = ((i + 1 : Nat) : Int) := by have := HN2.out; unfold wrap64; omega
     have hwa : wrap64 (a + (i : Int)) = a + (i : Int) := by have := HN2.out; have := HAB.out; unfold wrap64; omega
     have HLT := Lib.hid hlt
     clear hlt
     go_wp2_with fail
     rw [hwa]
     refine (chart_look.calls A0 c0 l (a + (i : Int)) (lookN l (a + (i : Int))) _ (Kd.C_below HR0.out HW.out.hB) HC0.out (by unfold chart_look.f; rw [if_pos HL.out])).mono ?_
     rintro e w6 ⟨rfl, hb⟩
     have HW1 := Lib.hid (HW.out.below hb)
     obtain ⟨q, hq⟩ : ∃ q, q = lookN l (a + (i : Int)) := ⟨_, rfl⟩
     have hbd := look_bd HI.out (a + (i : Int))
     rw [← hq] at hbd ⊢
     have HQ := Lib.hid hq
     have HBQ := Lib.hid hbd
     have q0 := hbd.1
     have q1 := hbd.2
     clear hb hq hbd
     go_wp2_with fail
     have hlen : (headT a m ++ glyphsT l a i).length = 10 + 2 * i := by rw [List.length_append, headT_length, glyphsT_length]
     have HLN := Lib.hid (show (headT a m ++ glyphsT l a i).length ≤ 70000 by rw [hlen]; have := HLT.out; have := HN2.out; omega)
     obtain ⟨bs, hbs⟩ : ∃ bs, bs = headT a m ++ glyphsT l a i := ⟨_, rfl⟩
     rw [← hbs] at HW1 HLN
     have HBS := Lib.hid hbs
     clear hlen hbs
     refine (writeByte_calls w.heap.size g (Lib.byteCells bs) (q / 256) _ HW1.out.b (by rw [Lib.byteCells_length]; have := HLN.out; omega) HW1.out.hB.size).mono ?_
     rintro e w7 ⟨rfl, hbb, hb⟩
     have HW2 := Lib.hid (show PutW w g w7 (bs ++ [byteOf q 1]) from HW1.out.wrote (byteOf q 1) (by rw [byte_hi q HBQ.out.1 HBQ.out.2]; exact hbb) hb)
     clear hbb hb HW1
     go_wp2_with fail
     refine (writeByte_calls w.heap.size g (Lib.byteCells (bs ++ [byteOf q 1])) (q % 256) _ HW2.out.b (by rw [Lib.byteCells_length, List.length_append]; have := HLN.out; simp; omega) HW2.out.hB.size).mono ?_
     rintro e w8 ⟨rfl, hbb, hb⟩
     have HW3 := Lib.hid (show PutW w g w8 ((bs ++ [byteOf q 1]) ++ [byteOf q 0]) from HW2.out.wrote (byteOf q 0) (by rw [byte_lo q]; exact hbb) hb)
     have HW4 := Lib.hid (show PutW w g w8 (headT a m ++ glyphsT l a (i + 1)) by
      have := HW3.out
      rw [HBS.out] at this
      rw [glyphsT_succ, ← HQ.out, bytesN_two]
      simpa using this)
     clear hbb hb HW2 HW3
     go_wp2
     go_roundw
     case rel => exact ⟨i + 1, HLT.out, by rw [hwi], ⟨HW4.out⟩⟩
     case measure => rw [hwi]; exact less_step (by decide) HLT.out
    ·
     have hie : i = n := by omega
     subst hie
     have d3 : decide ((i : Int) < (i : Int)) = false := decide_eq_false (by omega)
     have d4 : decide (i < i) = false := decide_eq_false (by omega)
     obtain ⟨bs, hbs⟩ : ∃ bs, bs = headT a m ++ glyphsT l a i := ⟨_, rfl⟩
     have hW := HW.out
     rw [← hbs] at hW
     have HW1 := Lib.hid hW
     have hne : bs ≠ [] := by
      intro e
      have h2 : bs.length = 10 + 2 * i := by rw [hbs, List.length_append, headT_length, glyphsT_length]
      rw [e, List.length_nil] at h2
      omega
     have HNE := Lib.hid hne
     have hres : r = (⟨bs.toArray⟩, 0) := by
      rw [HRE.out, hbs, HN.out, Int.toNat_natCast]
     have HRES := Lib.hid hres
     clear hbs hW hne hlt hres
     go_wp2_with fail
     refine (string_calls w.heap.size g bs _ HW1.out.b HNE.out).mono ?_
     rintro e w9 ⟨rfl, hb⟩
     have HB9 := Lib.hid (HW1.out.hB.trans hb)
     clear hb
     go_wp2
     go_ret2
     rw [HRES.out]
     exact ⟨rfl, HB9.out⟩
 | false =>
  have hab := HIN.out.2.2.2.2.2 rfl
  obtain ⟨rfl, rfl⟩ := hab
  have hm0 : m = 0 := by rw [hm]; rfl
  subst hm0
  have HRE := Lib.hid (show r = (⟨(headT 0 0).toArray⟩, 0) by rw [← HR.out, if_neg (by decide)]; rfl)
  clear HR HM HM2 HIN w1_ w3_ w4_ hm
  have w1_ : wrap64 ((0 : Int) - 0) = 0 := by decide +kernel
  go_enter Try.func43, Try.ntmps43
  go_wp2_with fail
  refine (H1.out _ (Below.refl _ _)).mono ?_
  rintro e w1 ⟨rfl, hb⟩
  have HB1 := Lib.hid hb
  clear hb
  go_wp2_with fail
  refine (H2.out _ HB1.out).mono ?_
  rintro e w2 ⟨rfl, hb⟩
  have HB2 := Lib.hid (HB1.out.trans (hb.mono HB1.out.size))
  clear hb
  go_wp2_with fail
  have e0 : (w2.alloc (.cells #[.pointer none, .slice none 0 0] 77)).heap[w2.heap.size]? = some (.cells #[.pointer none, .slice none 0 0] 77 (0, 0)) := (MapKept.heap_alloc w2 _).1
  have HP0 := Lib.hid (show PutW w w2.heap.size (w2.alloc (.cells #[.pointer none, .slice none 0 0] 77)) [] from ⟨.inl ⟨HB2.out.size, _, e0, World.ownsRow_nil _ _ _ _, by simp [Value.ownBlock]⟩, fun _ => ⟨_, e0⟩, HB2.out.alloc HB2.out.size _⟩)
  obtain ⟨w3, hw3⟩ : ∃ w3, w3 = w2.alloc (.cells #[.pointer none, .slice none 0 0] 77) := ⟨_, rfl⟩
  have hsz3 : w2.heap.size + 1 = w3.heap.size := by rw [hw3]; simp
  obtain ⟨g, hg⟩ : ∃ g, g = w2.heap.size := ⟨_, rfl⟩
  rw [hsz3, ← hw3, ← hg]
  rw [← hw3, ← hg] at HP0
  have C1 := Kd.C_alloc (lit_C w3 [2, 2, 2, 2, 2] (by decide)) (.cells (([6, 10, 0, 0, 0] : List Int).map (Value.int .i64)).toArray 3)
  have C2 := lit_C (w3.alloc (.cells (([2, 2, 2, 2, 2] : List Int).map (Value.int .i64)).toArray 3)) [6, 10, 0, 0, 0] (by decide)
  rw [World.size_alloc] at C2
  refine (bin_Put.calls _ 5 [2, 2, 2, 2, 2] _ 5 [6, 10, 0, 0, 0] _ _ _ C1 (Nat.le_refl _) C2 (Nat.le_refl _) (head_put (a := 0) (m := 0) (by decide) (by decide) (by decide) (by decide))).mono ?_
  rintro e w4 ⟨rfl, hb⟩
  have hb3 := (((Below.refl w3.heap.size w3).alloc (Nat.le_refl _) (.cells (([2, 2, 2, 2, 2] : List Int).map (Value.int .i64)).toArray 3)).alloc (by simp) (.cells (([6, 10, 0, 0, 0] : List Int).map (Value.int .i64)).toArray 3))
  have HP1 := Lib.hid (HP0.out.below (hb3.trans (hb.mono hb3.size)))
  obtain ⟨H, hH⟩ : ∃ H : ByteArray, H = ⟨(headT 0 0).toArray⟩ := ⟨_, rfl⟩
  have HHS := Lib.hid (show H.size = 10 by rw [hH]; simp [ByteArray.size, headT_length])
  have HHL := Lib.hid (show H.data.toList = headT 0 0 by rw [hH])
  rw [← hH]
  rw [← hH] at HRE
  clear C1 C2 hb hb3 hw3 hg hsz3 e0 hH HP0
  go_wp2_with fail
  refine (writeString_calls w.heap.size g _ H _ HP1.out.b (by rw [HHS.out]; decide) (by rw [HHS.out]; simp [Lib.byteCells]) HP1.out.hB.size).mono ?_
  rintro e w5 ⟨rfl, hbb, hb, _⟩
  have HP2 := Lib.hid (show PutW w g w5 (headT 0 0) by
   have := HP1.out.wroteS H (by rw [HHS.out]; decide) hbb hb
   rwa [HHL.out, List.nil_append] at this)
  clear hbb hb HP1
  go_wp2_with fail
  go_loopw [48] (fun v48 wr => v48 = .int .i64 0 ∧ Aside0 (PutW w g wr (headT 0 0))) (fun v48 _ => 0)
  case atStart => exact ⟨rfl, ⟨HP2.out⟩⟩
  case round =>
   obtain ⟨rfl, HW⟩ := hrel
   have hne : headT 0 0 ≠ [] := by
    intro e
    have h2 := headT_length 0 0
    rw [e, List.length_nil] at h2
    omega
   have HNE := Lib.hid hne
   have hHH : H = ⟨(headT 0 0).toArray⟩ := by rw [← HHL.out]
   have HHH := Lib.hid hHH
   clear hne hHH
   go_wp2_with fail
   refine (string_calls w.heap.size g (headT 0 0) _ HW.out.b HNE.out).mono ?_
   rintro e w9 ⟨rfl, hb⟩
   have HB9 := Lib.hid (HW.out.hB.trans hb)
   clear hb
   rw [← HHH.out]
   go_wp2
   go_ret2
   rw [HRE.out]
   exact ⟨rfl, HB9.out⟩
theorem trim_arg (A0 : Option Addr) (c0 : Nat) (l : List S50) (w : World) (hr0 : Kd.C k50 w A0 l.length l) (hc0 : l.length ≤ c0) (hi : isL l = false) :
  Calls Try.prog 43 #[.slice A0 l.length c0] w fun e w' => e = .returned (.tuple #[.string ⟨#[]⟩, .int .i64 1]) ∧ Below w.heap.size w w' := by
 have H1 := Lib.hid (chart_Is.calls A0 c0 l false w hr0 hc0 (by unfold chart_Is.f; rw [hi]))
 clear hr0 hc0 hi
 go_enter Try.func43, Try.ntmps43
 go_wp2_with fail
 refine H1.out.mono ?_
 rintro e w1 ⟨rfl, hb⟩
 have HB1 := Lib.hid hb
 clear hb
 go_wp2
 go_ret2
 exact ⟨rfl, HB1.out⟩
def chart_PutTrimmed.f (l0 : List S50) : Option (ByteArray × Int) := some (trimN l0)
theorem chart_PutTrimmed.calls (A0 : Option Addr) (c0 : Nat) (l0 : List S50) (r1 : ByteArray) (r2 : Int) (w : World) (hr0 : Kd.C k50 w A0 l0.length l0) (hc0 : l0.length ≤ c0) (h : chart_PutTrimmed.f l0 = some (r1, r2)) :
  Calls Try.prog 43 #[.slice A0 l0.length c0] w fun e w' => e = .returned (.tuple #[.string r1, .int .i64 r2]) ∧ Below w.heap.size w w' := by
 have hr := Option.some.inj h
 cases hi : isL l0 with
 | true => exact trim_walk A0 c0 l0 w hr0 hc0 hi (r1, r2) hr
 | false =>
  unfold trimN at hr
  rw [hi, if_pos rfl] at hr
  obtain ⟨rfl, rfl⟩ := Prod.mk.inj hr
  exact trim_arg A0 c0 l0 w hr0 hc0 hi
end Go.Proofs.Ytejdflndgnpkcaa.P
end
section
namespace Go.Proofs.Ytejdflndgnpkcaa.P
open Go.RowKit Go.Proofs.YtejdflndgnpkcaaW.PrintWords Go.Proofs.YtejdflndgnpkcaaW.PrintLast Go.Proofs.YtejdflndgnpkcaaW.PrintMore
theorem ba_size (L : List UInt8) : (⟨L.toArray⟩ : ByteArray).size = L.length := by simp [ByteArray.size]
theorem ba_of (t : ByteArray) : (⟨t.data.toList.toArray⟩ : ByteArray) = t := by simp
theorem ba_more (a : List UInt8) (m : ByteArray) : ((⟨a.toArray⟩ : ByteArray) ++ m) = ⟨(a ++ m.data.toList).toArray⟩ := by
 apply ByteArray.ext
 rw [ByteArray.data_append]
 simp
theorem ba_cut (L : List UInt8) (i j : Nat) : (⟨L.toArray⟩ : ByteArray).extract i j = ⟨((L.take j).drop i).toArray⟩ := by
 apply ByteArray.ext
 rw [ByteArray.data_extract]
 apply Array.ext'
 simp [List.drop_take]
theorem ba_drop (a r : List UInt8) : (⟨(a ++ r).toArray⟩ : ByteArray).extract a.length (⟨(a ++ r).toArray⟩ : ByteArray).size = ⟨r.toArray⟩ := by
 rw [ba_size, ba_cut, List.take_length, List.drop_left]
theorem bt_at (L : List UInt8) (j : Nat) (h : j < L.length) : bt (⟨L.toArray⟩ : ByteArray) (j : Int) = (L[j].toNat : Int) := by
 unfold bt
 have h1 : ((j : Nat) : Int).toNat < (⟨L.toArray⟩ : ByteArray).size := by rw [ba_size]; exact h
 rw [dif_pos h1]
 simp only [Int.toNat_natCast]
 rfl
theorem num_bytes (v : Int) (n : Nat) (hn : n = 1 ∨ n = 2 ∨ n = 3 ∨ n = 4) (r : List UInt8) : numAt ⟨(bytesN v n ++ r).toArray⟩ n = v % 256 ^ n := by
 have hb : ∀ j (h : j < (bytesN v n ++ r).length), bt (⟨(bytesN v n ++ r).toArray⟩ : ByteArray) (j : Int) = ((bytesN v n ++ r)[j].toNat : Int) := fun j h => bt_at _ j h
 have e1 : (256 : Int) ^ 1 = 256 := by decide
 have e2 : (256 : Int) ^ 2 = 65536 := by decide
 have e3 : (256 : Int) ^ 3 = 16777216 := by decide
 have e4 : (256 : Int) ^ 4 = 4294967296 := by decide
 have f0 := byteOf_nat v 0
 have f1 := byteOf_nat v 1
 have f2 := byteOf_nat v 2
 have f3 := byteOf_nat v 3
 rw [Int.pow_zero, Int.ediv_one] at f0
 rw [e1] at f1
 rw [e2] at f2
 rw [e3] at f3
 rcases hn with rfl | rfl | rfl | rfl
 ·
  have h0 := hb 0 (by simp [bytesN])
  simp only [bytesN, List.cons_append, List.nil_append, List.getElem_cons_zero, List.getElem_cons_succ] at h0
  simp only [numAt]
  simp only [bytesN, List.cons_append, List.nil_append]
  rw [e1, h0]; omega
 ·
  have h0 := hb 0 (by simp [bytesN])
  have h1 := hb 1 (by simp [bytesN])
  simp only [bytesN, List.cons_append, List.nil_append, List.getElem_cons_zero, List.getElem_cons_succ] at h0 h1
  simp only [numAt]
  simp only [bytesN, List.cons_append, List.nil_append]
  rw [e2, h0, h1]; omega
 ·
  have h0 := hb 0 (by simp [bytesN])
  have h1 := hb 1 (by simp [bytesN])
  have h2 := hb 2 (by simp [bytesN])
  simp only [bytesN, List.cons_append, List.nil_append, List.getElem_cons_zero, List.getElem_cons_succ] at h0 h1 h2
  simp only [numAt]
  simp only [bytesN, List.cons_append, List.nil_append]
  rw [e3, h0, h1, h2]; omega
 ·
  have h0 := hb 0 (by simp [bytesN])
  have h1 := hb 1 (by simp [bytesN])
  have h2 := hb 2 (by simp [bytesN])
  have h3 := hb 3 (by simp [bytesN])
  simp only [bytesN, List.cons_append, List.nil_append, List.getElem_cons_zero, List.getElem_cons_succ] at h0 h1 h2 h3
  simp only [numAt]
  simp only [bytesN, List.cons_append, List.nil_append]
  rw [e4, h0, h1, h2, h3]; omega
theorem size_of {s : Int} (h : isSize s = true) : s.natAbs = 1 ∨ s.natAbs = 2 ∨ s.natAbs = 3 ∨ s.natAbs = 4 := by
 have := of_decide_eq_true h
 omega
theorem pow_even {n : Nat} (hn : n = 1 ∨ n = 2 ∨ n = 3 ∨ n = 4) : ∃ h : Int, (256 : Int) ^ n = 2 * h ∧ 0 < h := by
 rcases hn with rfl | rfl | rfl | rfl
 · exact ⟨128, by decide, by decide⟩
 · exact ⟨32768, by decide, by decide⟩
 · exact ⟨8388608, by decide, by decide⟩
 · exact ⟨2147483648, by decide, by decide⟩
theorem take_bytes {v s : Int} (hs : isSize s = true) (hf : fitsN v s = true) (r : List UInt8) : takeN ⟨(bytesN v s.natAbs ++ r).toArray⟩ s = v := by
 have hn := size_of hs
 obtain ⟨H, hH, h0⟩ := pow_even hn
 unfold takeN
 unfold fitsN at hf
 rw [num_bytes v s.natAbs hn r]
 rw [hH] at hf ⊢
 by_cases hz : s < 0
 ·
  rw [if_pos hz] at hf
  have := of_decide_eq_true hf
  by_cases hv : v < 0
  ·
   have e : v % (2 * H) = v + 2 * H := by
    rw [← Int.add_emod_right (a := v) (b := 2 * H)]
    exact Int.emod_eq_of_lt (by omega) (by omega)
   rw [e, if_pos ⟨hz, by omega⟩]; omega
  ·
   have e : v % (2 * H) = v := Int.emod_eq_of_lt (by omega) (by omega)
   rw [e, if_neg (by rintro ⟨_, h⟩; omega)]
 ·
  rw [if_neg hz] at hf
  have := of_decide_eq_true hf
  have e : v % (2 * H) = v := Int.emod_eq_of_lt (by omega) (by omega)
  rw [e, if_neg (by rintro ⟨h, _⟩; exact hz h)]
theorem takes_rep (t : ByteArray) (s : Int) : ∀ (m p : Nat), p + s.natAbs * m ≤ t.size → takes (t.extract p t.size) (repN [s] m) = some ((List.range m).map (fun i => takeN (t.extract (p + s.natAbs * i) t.size) s))
 | 0, p, _ => rfl
 | m + 1, p, h => by
  have hm : s.natAbs * (m + 1) = s.natAbs * m + s.natAbs := Nat.mul_succ _ _
  have hx : (t.extract p t.size).extract s.natAbs (t.extract p t.size).size = t.extract (p + s.natAbs) t.size := by
   rw [ByteArray.extract_extract]
   congr 1
   simp; omega
  have hz : (t.extract p t.size).size = t.size - p := by simp
  simp only [repN, List.cons_append, List.nil_append, takes]
  rw [if_pos (by rw [hz]; omega), hx, takes_rep t s m (p + s.natAbs) (by omega), List.range_succ_eq_map, List.map_cons, List.map_map]
  simp only [Option.map_some, Option.some.injEq, Nat.mul_zero, Nat.add_zero, List.cons.injEq, true_and]
  apply List.map_congr_left
  intro i _
  simp only [Function.comp_apply, Nat.mul_succ, Nat.succ_eq_add_one]
  congr 2
  omega
theorem takes_rep_none (t : ByteArray) (s : Int) : ∀ (m p : Nat), p ≤ t.size → t.size < p + s.natAbs * m → takes (t.extract p t.size) (repN [s] m) = none
 | 0, p, h1, h2 => by omega
 | m + 1, p, h1, h2 => by
  have hm : s.natAbs * (m + 1) = s.natAbs * m + s.natAbs := Nat.mul_succ _ _
  have hx : (t.extract p t.size).extract s.natAbs (t.extract p t.size).size = t.extract (p + s.natAbs) t.size := by
   rw [ByteArray.extract_extract]
   congr 1
   simp; omega
  have hz : (t.extract p t.size).size = t.size - p := by simp
  simp only [repN, List.cons_append, List.nil_append, takes]
  by_cases h : s.natAbs ≤ t.size - p
  · rw [if_pos (by rw [hz]; exact h), hx, takes_rep_none t s m (p + s.natAbs) (by omega) (by omega)]; rfl
  · rw [if_neg (by rw [hz]; exact h)]
theorem rep_sizes {s : Int} (h : isSize s = true) : ∀ m, areSizes (repN [s] m) = true
 | 0 => rfl
 | m + 1 => by
  have := rep_sizes h m
  unfold areSizes at this ⊢
  simp only [repN, List.cons_append, List.nil_append, List.all_cons, Bool.and_eq_true]
  exact ⟨h, this⟩
theorem get_rep (t : ByteArray) {s : Int} (hs : isSize s = true) (p m : Nat) : getN t (p : Int) (repN [s] m) = if p + s.natAbs * m ≤ t.size then ((List.range m).map (fun i => takeN (t.extract (p + s.natAbs * i) t.size) s), 0) else ([], 4) := by
  unfold getN
  rw [if_neg (by rintro (h | h); · omega
                 · rw [rep_sizes hs m] at h; exact absurd h (by decide))]
  by_cases hp : p ≤ t.size
  · rw [if_neg (by omega), Int.toNat_natCast]
    by_cases h : p + s.natAbs * m ≤ t.size
    · rw [if_pos h, takes_rep t s m p h]
    · rw [if_neg h, takes_rep_none t s m p hp (by omega)]
  · rw [if_pos (by omega), if_neg (by have := Nat.zero_le (s.natAbs * m); omega)]
end Go.Proofs.Ytejdflndgnpkcaa.P
end
section
namespace Go.Proofs.Ytejdflndgnpkcaa.P
open Go.RowKit Go.Proofs.YtejdflndgnpkcaaW.PrintWords Go.Proofs.YtejdflndgnpkcaaW.PrintLast Go.Proofs.YtejdflndgnpkcaaW.PrintMore
theorem rd_get (l : List S50) (i : Nat) (h : i < l.length) : rd_T50 l (i : Int) = l[i] := by
 rw [rd_atS, atS_get l i h]
theorem one_ref (x : S50) : vinculumref08_one.f x.f0 x.f1 x.f2 x.f3 = some (rightN x) := by
 obtain ⟨a, b, c, s⟩ := x
 unfold vinculumref08_one.f rightN
 simp only
 by_cases h1 : a < 0
 · rw [if_pos h1, decide_eq_false (show ¬ 0 ≤ a by omega), Bool.false_and]
 rw [if_neg h1, decide_eq_true (show 0 ≤ a by omega), Bool.true_and]
 by_cases h2 : b < a
 · rw [if_pos h2, decide_eq_false (show ¬ a ≤ b by omega), Bool.false_and]
 rw [if_neg h2, decide_eq_true (show a ≤ b by omega), Bool.true_and]
 by_cases h3 : b > 1114111
 · rw [if_pos h3, decide_eq_false (show ¬ b ≤ 1114111 by omega), Bool.false_and]
 rw [if_neg h3, decide_eq_true (show b ≤ 1114111 by omega), Bool.true_and]
 have hs : (s == 0 || s == 1) = (decide (0 ≤ s) && decide (s ≤ 1)) := by
  rw [Bool.eq_iff_iff]
  simp only [Bool.or_eq_true, Bool.and_eq_true, beq_iff_eq, decide_eq_true_eq]
  omega
 rw [hs]
 by_cases h4 : s < 0
 · rw [if_pos h4, decide_eq_false (show ¬ 0 ≤ s by omega), Bool.false_and, Bool.false_and]
 rw [if_neg h4, decide_eq_true (show 0 ≤ s by omega), Bool.true_and]
 by_cases h5 : s > 1
 · rw [if_pos h5, decide_eq_false (show ¬ s ≤ 1 by omega), Bool.false_and]
 rw [if_neg h5, decide_eq_true (show s ≤ 1 by omega), Bool.true_and]
 by_cases h6 : c < 0
 · rw [if_pos h6, decide_eq_false (show ¬ 0 ≤ c by omega), Bool.false_and]
 rw [if_neg h6, decide_eq_true (show 0 ≤ c by omega), Bool.true_and]
 by_cases h7 : c > 65535
 · rw [if_pos h7, decide_eq_false (show ¬ c ≤ 65535 by omega), Bool.false_and]
 rw [if_neg h7, decide_eq_true (show c ≤ 65535 by omega), Bool.true_and, glyph_bound (by omega) (by omega) (by omega) (by omega) (by omega) s (by omega)]
def isFrom (l : List S50) (i : Nat) : Bool := (l.drop i).all rightN && ordN (l.drop (i - 1))
theorem is_loop (l : List S50) (hl : l.length ≤ 65536) (d : Nat) : ∀ k i, l.length - i = d → i ≤ l.length → 2 * d + 3 ≤ k → vinculumref08_Is.l0 k l (i : Int) = some (isFrom l i) := by
 induction d with
 | zero =>
  intro k i hd hi hk
  obtain ⟨k, rfl⟩ : ∃ n, k = n + 2 := ⟨k - 2, by omega⟩
  have : i = l.length := by omega
  subst this
  simp only [vinculumref08_Is.l0]
  rw [if_neg (by omega)]
  simp only [vinculumref08_Is.j1]
  rw [if_neg Bool.false_ne_true, decide_eq_true (show (l.length : Int) ≤ 65536 by omega)]
  unfold isFrom
  rw [List.drop_length, List.all_nil, Bool.true_and]
  by_cases h0 : l.length = 0
  · rw [List.length_eq_zero_iff.1 h0]; rfl
  · rw [ord_last l (l.length - 1) (by omega)]
 | succ d ih =>
  intro k i hd hi hk
  obtain ⟨k, rfl⟩ : ∃ n, k = n + 2 := ⟨k - 2, by omega⟩
  have hlt : i < l.length := by omega
  have hw : wrap64 ((i : Int) + 1) = ((i + 1 : Nat) : Int) := by unfold wrap64; omega
  have hw1 : wrap64 ((i : Int) - 1) = (i : Int) - 1 := by unfold wrap64; omega
  have ih' := ih k (i + 1) (by omega) (by omega) (by omega)
  simp only [vinculumref08_Is.l0]
  rw [if_pos (by omega), decide_eq_true (show (l.length : Int) ≤ 65536 by omega)]
  simp only [vinculumref08_Is.j1]
  rw [if_pos trivial, if_pos (by omega), if_pos (by omega), one_ref]
  simp only [Option.bind_some]
  rw [rd_get l i hlt, hw, hw1, ih']
  have e1 : (l.drop i).all rightN = (rightN l[i] && (l.drop (i + 1)).all rightN) := by rw [List.drop_eq_getElem_cons hlt, List.all_cons]
  cases hx : rightN l[i] with
  | false =>
   rw [if_neg Bool.false_ne_true]
   unfold isFrom
   rw [e1, hx, Bool.false_and, Bool.false_and]
  | true =>
   rw [if_pos rfl]
   unfold isFrom
   rw [e1, hx, Bool.true_and, Nat.add_sub_cancel]
   by_cases h0 : (i : Int) > 0
   ·
    obtain ⟨j, rfl⟩ : ∃ j, i = j + 1 := ⟨i - 1, by omega⟩
    have hj : ((j + 1 : Nat) : Int) - 1 = (j : Int) := by omega
    rw [if_pos h0, hj, if_pos (by omega), if_pos (by omega), rd_get l j (by omega), Nat.add_sub_cancel, ord_at l j hlt]
    by_cases hle : l[j + 1].f0 ≤ l[j].f1
    · rw [if_pos hle, decide_eq_false (show ¬ l[j].f1 < l[j + 1].f0 by omega), Bool.false_and, Bool.and_false]
    · rw [if_neg hle, decide_eq_true (show l[j].f1 < l[j + 1].f0 by omega), Bool.true_and]
   ·
    have : i = 0 := by omega
    subst this
    rw [if_neg h0]
theorem is_ref8 (l : List S50) (k : Nat) (hk : 131100 ≤ k ∨ l.length ≤ 300 ∧ 700 ≤ k) : vinculumref08_Is.f k l = some (isL l) := by
 unfold vinculumref08_Is.f
 by_cases hl : l.length ≤ 65536
 ·
  have := is_loop l hl l.length k 0 rfl (by omega) (by omega)
  refine Eq.trans this ?_
  unfold isFrom isL
  rw [List.drop_zero, decide_eq_true hl, Bool.true_and]
 ·
  obtain ⟨k, rfl⟩ : ∃ n, k = n + 2 := ⟨k - 2, by omega⟩
  simp only [vinculumref08_Is.l0]
  rw [if_pos (by omega), decide_eq_false (show ¬ (l.length : Int) ≤ 65536 by omega)]
  simp only [vinculumref08_Is.j1]
  rw [if_neg Bool.false_ne_true, decide_eq_false (show ¬ (l.length : Int) ≤ 65536 by omega)]
  unfold isL
  rw [decide_eq_false hl, Bool.false_and]
def endsR (l : List S50) : Int × Int × Bool := if (endsN l).2.2 = true then endsN l else (-1, -1, false)
theorem has_skip {x : S50} (hx : rightN x = true) : hasN x = !((x.f2 == 0 && x.f3 == 0) || decide ((if x.f2 = 0 then x.f0 + 1 else x.f0) > x.f1)) := by
 obtain ⟨a0, a1, a2, a3, a4, a5, a6⟩ := (right_iff x).1 hx
 rw [Bool.eq_iff_iff, has_iff hx]
 simp only [Bool.not_eq_true', Bool.or_eq_false_iff, Bool.and_eq_false_iff, beq_eq_false_iff_ne, decide_eq_false_iff_not]
 by_cases h : x.f2 = 0
 · rw [if_pos h]; omega
 · rw [if_neg h]; omega
theorem fst_from {x : S50} (hx : rightN x = true) (hh : hasN x = true) : fstAt x = if x.f2 = 0 then x.f0 + 1 else x.f0 := by
 have h2 := (has_iff hx).1 hh
 rw [fst_val hx]
 by_cases h : x.f2 = 0
 · rw [if_pos h, if_pos h]; omega
 · rw [if_neg h, if_neg h]
theorem ends_round (l : List S50) (i : Nat) (hlt : i < l.length) (hi : i ≤ 65536) (hx : rightN l[i] = true) (a b : Int) (k : Nat) : vinculumref08_ends.l0 (k + 3) l a b (i : Int) = if hasN l[i] = true then vinculumref08_ends.l0 k l (if a < 0 then fstAt l[i] else a) l[i].f1 ((i + 1 : Nat) : Int) else vinculumref08_ends.l0 k l a b ((i + 1 : Nat) : Int) := by
 obtain ⟨a0, a1, a2, a3, a4, a5, a6⟩ := (right_iff l[i]).1 hx
 have hw : wrap64 ((i : Int) + 1) = ((i + 1 : Nat) : Int) := by unfold wrap64; omega
 have hw1 : wrap64 (l[i].f0 + 1) = l[i].f0 + 1 := by unfold wrap64; omega
 have hs := has_skip hx
 have hj : ∀ (f : Int) (q : Bool), (hasN l[i] = true → f = fstAt l[i]) → q = !hasN l[i] → vinculumref08_ends.j2 (k + 1) l a b (i : Int) f q = if hasN l[i] = true then vinculumref08_ends.l0 k l (if a < 0 then fstAt l[i] else a) l[i].f1 ((i + 1 : Nat) : Int) else vinculumref08_ends.l0 k l a b ((i + 1 : Nat) : Int) := fun f q hf hq => by
  simp only [vinculumref08_ends.j2]
  rw [hw, rd_get l i hlt, if_pos (show 0 ≤ (i : Int) by omega), if_pos (show (i : Int) < (l.length : Int) by omega), if_pos (show 0 ≤ (i : Int) by omega), if_pos (show (i : Int) < (l.length : Int) by omega)]
  cases hh : hasN l[i] with
  | false => rw [hq, hh, if_pos (by decide), if_neg Bool.false_ne_true]
  | true =>
   rw [hq, hh, if_neg (by decide), if_pos rfl, hf hh]
   by_cases ha : a < 0
   · rw [if_pos ha, if_pos ha]
   · rw [if_neg ha, if_neg ha]
 simp only [vinculumref08_ends.l0]
 rw [if_pos (show (i : Int) < (l.length : Int) by omega), if_pos (show 0 ≤ (i : Int) by omega), rd_get l i hlt, hw1]
 by_cases h2 : l[i].f2 = 0
 ·
  rw [if_pos h2]
  simp only [vinculumref08_ends.j1]
  rw [if_pos (show 0 ≤ (i : Int) by omega), if_pos (show (i : Int) < (l.length : Int) by omega), rd_get l i hlt, if_pos h2]
  rw [if_pos h2] at hs
  by_cases h3 : l[i].f3 = 0
  ·
   rw [if_pos h3]
   refine hj _ _ (fun hh => by rw [fst_from hx hh, if_pos h2]) ?_
   rw [hs, h2, h3]; rfl
  ·
   rw [if_neg h3]
   refine hj _ _ (fun hh => by rw [fst_from hx hh, if_pos h2]) ?_
   rw [hs, beq_eq_false_iff_ne.2 h3, Bool.and_false, Bool.false_or, Bool.not_not]
 ·
  rw [if_neg h2]
  simp only [vinculumref08_ends.j1]
  rw [if_pos (show 0 ≤ (i : Int) by omega), if_pos (show (i : Int) < (l.length : Int) by omega), rd_get l i hlt, if_neg h2]
  rw [if_neg h2] at hs
  refine hj _ _ (fun hh => by rw [fst_from hx hh, if_neg h2]) ?_
  rw [hs, beq_eq_false_iff_ne.2 h2, Bool.false_and, Bool.false_or, Bool.not_not]
theorem ends_after (l : List S50) (hl : l.length ≤ 65536) (hr : ∀ x ∈ l, rightN x = true) (a : Int) (ha : 0 ≤ a) (d : Nat) : ∀ k i b, l.length - i = d → i ≤ l.length → 3 * d + 1 ≤ k → vinculumref08_ends.l0 k l a b (i : Int) = some (a, lastN b (l.drop i), true) := by
 induction d with
 | zero =>
  intro k i b hd hi hk
  obtain ⟨k, rfl⟩ : ∃ n, k = n + 1 := ⟨k - 1, by omega⟩
  have : i = l.length := by omega
  subst this
  simp only [vinculumref08_ends.l0]
  rw [if_neg (by omega), List.drop_length, decide_eq_true (show a ≥ 0 from ha)]
  rfl
 | succ d ih =>
  intro k i b hd hi hk
  obtain ⟨k, rfl⟩ : ∃ n, k = n + 3 := ⟨k - 3, by omega⟩
  have hlt : i < l.length := by omega
  rw [ends_round l i hlt (by omega) (hr _ (List.getElem_mem hlt)) a b k, List.drop_eq_getElem_cons hlt, last_step, if_neg (show ¬ a < 0 by omega), ih k (i + 1) _ (by omega) (by omega) (by omega), ih k (i + 1) _ (by omega) (by omega) (by omega)]
  cases hasN l[i] <;> rfl
theorem ends_before (l : List S50) (hl : l.length ≤ 65536) (hr : ∀ x ∈ l, rightN x = true) (d : Nat) : ∀ k i, l.length - i = d → i ≤ l.length → 3 * d + 1 ≤ k → vinculumref08_ends.l0 k l (-1) (-1) (i : Int) = some (endsR (l.drop i)) := by
 induction d with
 | zero =>
  intro k i hd hi hk
  obtain ⟨k, rfl⟩ : ∃ n, k = n + 1 := ⟨k - 1, by omega⟩
  have : i = l.length := by omega
  subst this
  simp only [vinculumref08_ends.l0]
  rw [if_neg (by omega), List.drop_length]
  rfl
 | succ d ih =>
  intro k i hd hi hk
  obtain ⟨k, rfl⟩ : ∃ n, k = n + 3 := ⟨k - 3, by omega⟩
  have hlt : i < l.length := by omega
  have hx := hr _ (List.getElem_mem hlt)
  rw [ends_round l i hlt (by omega) hx (-1) (-1) k, ih k (i + 1) (by omega) (by omega) (by omega), List.drop_eq_getElem_cons hlt, if_pos (show (-1 : Int) < 0 by decide)]
  cases hh : hasN l[i] with
  | false =>
   rw [if_neg Bool.false_ne_true]
   unfold endsR
   conv => rhs; unfold endsN
   rw [hh, if_neg Bool.false_ne_true]
  | true =>
   rw [if_pos rfl, ends_after l hl hr (fstAt l[i]) (fst_in hx hh).1 d k (i + 1) l[i].f1 (by omega) (by omega) (by omega)]
   unfold endsR endsN
   rw [hh, if_pos rfl, if_pos rfl, last_step, hh, if_pos rfl]
theorem ends_ref {l : List S50} (h : isL l = true) (k : Nat) (hk : 3 * l.length + 1 ≤ k) : vinculumref08_ends.f k l = some (endsR l) := by
 obtain ⟨h1, h2, _⟩ := isL_all h
 exact ends_before l h1 h2 l.length k 0 rfl (by omega) hk
def glyphOf (l : List S50) (c : Int) : Int := if isL l = true then lookN l c else 0
theorem look_told (l : List S50) (c : Int) : chart_Look.f l c = some (glyphOf l c) := by
 unfold chart_Look.f chart_Is.f glyphOf
 rw [Option.bind_some]
 cases h : isL l with
 | false => rw [if_neg Bool.false_ne_true, if_neg Bool.false_ne_true]
 | true =>
  rw [if_pos rfl, if_pos rfl]
  unfold chart_look.f
  rw [if_pos (isL_all h).1]
  rfl
end Go.Proofs.Ytejdflndgnpkcaa.P
end
section
namespace Go.Proofs.Ytejdflndgnpkcaa.P
open Go.RowKit Go.Proofs.YtejdflndgnpkcaaW.PrintWords Go.Proofs.YtejdflndgnpkcaaW.PrintLast Go.Proofs.YtejdflndgnpkcaaW.PrintMore
attribute [local go_sem] max2_int min2_int max_two min_two max_three min_three max_four min_four
def chart_spans.l0 : Nat → Int → List (S50) → List Int → Int → Int → Option ((List (S50)))
 | 0, _, _, _, _, _ => none
 | k + 1, x0, x5, x8, x9, x10 => if x10 < x9 then (if 0 ≤ x10 then (if x10 < (x8.length : Int) then (if (rd x8 x10) = 0 then (chart_spans.l0 k x0 x5 x8 x9 (wrap64 (x10 + 1))) else (if x5.length < 4398046511104 then (chart_spans.l0 k x0 (x5 ++ [(⟨wrap64 (x0 + x10), wrap64 (x0 + x10), rd x8 x10, 1⟩ : S50)]) x8 x9 (wrap64 (x10 + 1))) else (none))) else (none)) else (none)) else (some x5)
def chart_spans.f (k : Nat) (a0 : Int) (l1 : List Int) : Option ((List (S50))) := chart_spans.l0 k a0 ([] : List (S50)) l1 (l1.length : Int) 0
set_option maxHeartbeats 8000000 in
set_option maxRecDepth 100000 in
theorem chart_spans.calls (k : Nat) (a0 : Int) (A1 : Option Addr) (c1 : Nat) (l1 : List Int) (r : List (S50)) (w : World) (hr1 : Kd.C (Kd.int .i64) w A1 l1.length l1) (hc1 : l1.length ≤ c1) (h : chart_spans.f k a0 l1 = some r) :
  Calls Try.prog 81 #[.int .i64 a0, .slice A1 l1.length c1] w fun e w' => ∃ v0_ : Value, e = .returned (v0_) ∧ Kd.R k50 50 w' w.heap.size (fun _ => True) v0_ r ∧ Below w.heap.size w w' := by
 have hu50 := Try.underlying50
 have HR1 := Aside0.mk hr1
 have HC1 := Aside0.mk hc1
 clear hr1 hc1
 have HB := Aside0.mk (Below.refl w.heap.size w)
 have H : (chart_spans.l0 k a0 ([] : List (S50)) l1 (l1.length : Int) 0) = some r := h
 clear h
 have H' := Aside0.mk H
 clear H
 go_enter Try.func81, Try.ntmps81
 go_wp2
 go_loopg [5, 10] k (fun kq v5 v10 w' => ∃ (x5_1 : List (S50)) (x10_1 : Int), v10 = .int .i64 x10_1 ∧ Aside0 (chart_spans.l0 kq a0 x5_1 l1 (l1.length : Int) x10_1 = some r) ∧ Aside0 (kq ≤ k) ∧ Aside0 (Kd.R k50 50 w' w.heap.size (fun _ => True) v5 x5_1) ∧ Aside0 (Below w.heap.size w w'))
 case atStart => exact ⟨(([] : List (S50))), (0), gA, H', ⟨Nat.le_refl _⟩, ⟨nA⟩, ⟨bA⟩⟩
 case round =>
  clear H'
  try clear c1
  try clear p2
  obtain ⟨x5_1, x10_1, rfl, HA, HK1, HO_5, HB⟩ := hrel
  cases gk with
  | zero => exact absurd HA.out (by simp [chart_spans.l0])
  | succ k1 =>
   have H := HA.out
   clear HA
   simp only [chart_spans.l0] at H
   by_cases c3 : x10_1 < (l1.length : Int)
   ·
    rw [if_pos c3] at H
    have c3b0 : decide (x10_1 < (l1.length : Int)) = true := decide_eq_true c3
    clear c3
    by_cases c4 : 0 ≤ x10_1
    ·
     rw [if_pos c4] at H
     have c4b0 : decide (0 ≤ x10_1) = true := decide_eq_true c4
     clear c4
     by_cases c5 : x10_1 < (l1.length : Int)
     ·
      rw [if_pos c5] at H
      have c5b0 : decide (x10_1 < (l1.length : Int)) = true := decide_eq_true c5
      clear c5
      by_cases c6 : (rd l1 x10_1) = 0
      ·
       rw [if_pos c6] at H
       have c6b0 : ((rd l1 x10_1) == 0) = true := beq_iff_eq.mpr c6
       have c6b1 : ((rd l1 x10_1) != 0) = false := bne_eq_false_iff_eq.mpr c6
       clear c6
       have H' := Aside0.mk H
       clear H
       have p130 : 0 ≤ (x10_1 : Int) := of_decide_eq_true sA
       have q130 : x10_1 < (l1.length : Int) := of_decide_eq_true sA
       obtain ⟨ad130, e130, hx130_0⟩ := Kd.at_int HR1.out x10_1 p130 q130
       cases e130
       replace hx130_0 := (HB.out.cell (World.block_lt_of_cell? w _ hx130_0)).trans hx130_0
       replace p130 := eq_true p130
       replace q130 := eq_true q130
       go_wp2
       go_roundg k1
       case measure => have := HK1.out; omega
       case rel => exact ⟨(x5_1), (wrap64 (x10_1 + 1)), gA, H', ⟨by have := HK1.out; omega⟩, ⟨by (with_reducible repeat (first | apply Kd.R_alloc | apply Kd.R_drewN | apply Kd.R_drew)); exact HO_5.out⟩, ⟨bA⟩⟩
      ·
       rw [if_neg c6] at H
       have c6b0 : ((rd l1 x10_1) == 0) = false := beq_eq_false_iff_ne.mpr c6
       have c6b1 : ((rd l1 x10_1) != 0) = true := bne_iff_ne.mpr c6
       by_cases c7 : x5_1.length < 4398046511104
       ·
        rw [if_pos c7] at H
        have LMc7 := Aside0.mk c7
        clear c7
        obtain ⟨y131, hy131⟩ : ∃ y_ : List (S50), y_ = (x5_1 ++ [(⟨wrap64 (a0 + x10_1), wrap64 (a0 + x10_1), rd l1 x10_1, 1⟩ : S50)]) := ⟨_, rfl⟩
        replace H : (chart_spans.l0 k1 a0 y131 l1 (l1.length : Int) (wrap64 (x10_1 + 1))) = some r := by first | (rw [hy131]; with_reducible exact H) | (have H2_ := (Option.bind_some _ _).symm.trans H; rw [hy131]; with_reducible exact H2_) | (have H2_ := (Option.bind_some _ _).symm.trans H; with_reducible exact H2_) | with_reducible exact H | (rw [hy131]; exact H) | exact H
        have Ny131 := Aside0.mk hy131
        clear hy131
        have H' := Aside0.mk H
        clear H
        have p130 : 0 ≤ (x10_1 : Int) := of_decide_eq_true sA
        have q130 : x10_1 < (l1.length : Int) := of_decide_eq_true sA
        obtain ⟨ad130, e130, hx130_0⟩ := Kd.at_int HR1.out x10_1 p130 q130
        cases e130
        replace hx130_0 := (HB.out.cell (World.block_lt_of_cell? w _ hx130_0)).trans hx130_0
        replace p130 := eq_true p130
        replace q130 := eq_true q130
        go_wp2_with (first | ((with_reducible refine gate_builtin (b := .append) (xs := #[.tmp 17, .tmp 26]) rfl ?_); at_builtin; refine Kd.R_append k50 (w0 := w) w.heap.size rfl (.tmp 17) (.tmp 26) 22 50 (.agg #[(.int .i64 0), (.int .i64 0), (.int .i64 0), (.int .i64 0)]) 32 rfl Try.underlying22 info50 rfl (by decide) (by omega) u5 x5_1 (⟨wrap64 (a0 + x10_1), wrap64 (a0 + x10_1), rd l1 x10_1, 1⟩ : S50) [.int .i64 (wrap64 (a0 + x10_1)), .int .i64 (wrap64 (a0 + x10_1)), .int .i64 (rd l1 x10_1), .int .i64 1] (fun _ => True) (fun _ => False) rfl rfl ?aP (fun _ hk => hk.elim) ?aF ?aO ?aB ?aS ?aL ?_; (case aP => exact k50_mkM _ _ _ (⟨wrap64 (a0 + x10_1), wrap64 (a0 + x10_1), rd l1 x10_1, 1⟩ : S50)); (case aB => exact bA); (case aF => exact (fun _ _ => trivial)); (case aO => exact (rA HO_5.out)); (case aS => exact (below_size bA)); (case aL => have := LMc7.out; omega); intro v132 w8 ho hb hg hat; rw [← Ny131.out] at ho; have n0_ := Aside0.mk (hb); have n1_ := Aside0.mk (ho); clear HB; clear HO_5; have HB := n0_; have HO133 := n1_; clear n0_ n1_; clear ho hb hg hat))
        go_roundg k1
        case measure => have := HK1.out; omega
        case rel => exact ⟨(y131), (wrap64 (x10_1 + 1)), gA, H', ⟨by have := HK1.out; omega⟩, ⟨by (with_reducible repeat (first | apply Kd.R_alloc | apply Kd.R_drewN | apply Kd.R_drew)); exact HO133.out⟩, ⟨bA⟩⟩
       ·
        rw [if_neg c7] at H
        exact absurd H (by simp)
     ·
      rw [if_neg c5] at H
      exact absurd H (by simp)
    ·
     rw [if_neg c4] at H
     exact absurd H (by simp)
   ·
    rw [if_neg c3] at H
    have c3b0 : decide (x10_1 < (l1.length : Int)) = false := decide_eq_false c3
    clear c3
    obtain rfl := Option.some.inj H
    go_wp2
    go_ret
    exact ⟨_, eA, by (with_reducible repeat (first | apply Kd.R_alloc | apply Kd.R_drewN | apply Kd.R_drew)); exact HO_5.out, by repeat (first | (with_reducible first | exact HB.out | apply below_alloc | apply pw_below_drewN | apply below_drew1) | exact HB.out)⟩
end Go.Proofs.Ytejdflndgnpkcaa.P
end
section
namespace Go.Proofs.Ytejdflndgnpkcaa.P
open Go.RowKit Go.Proofs.YtejdflndgnpkcaaW.PrintWords Go.Proofs.YtejdflndgnpkcaaW.PrintLast Go.Proofs.YtejdflndgnpkcaaW.PrintMore
attribute [local go_sem] max2_int min2_int max_two min_two max_three min_three max_four min_four
def chart_getSmall.f (k : Nat) (a0 : ByteArray) (a1 : Int) : Option ((List (S50)) × Int) := if a1 = 262 then ((slices_Repeat_int_int.f (([1] : List Int)) 256).bind fun t137 => ((bin_Get.f a0 6 t137).bind fun bt140 => ((chart_spans.f k 0 bt140.1).bind fun t144 => (some (t144, bt140.2))))) else (some (([] : List (S50)), 5))
set_option maxHeartbeats 8000000 in
set_option maxRecDepth 100000 in
theorem chart_getSmall.calls (k : Nat) (a0 : ByteArray) (a1 : Int) (r1 : List (S50)) (r2 : Int) (w : World) (h : chart_getSmall.f k a0 a1 = some (r1, r2)) :
  Calls Try.prog 60 #[.string a0, .int .i64 a1] w fun e w' => ∃ v0_ : Value, e = .returned (.tuple #[v0_, .int .i64 r2]) ∧ Kd.R k50 50 w' w.heap.size (fun _ => True) v0_ r1 ∧ Below w.heap.size w w' := by
 have HB := Aside0.mk (Below.refl w.heap.size w)
 have H : (if a1 = 262 then ((slices_Repeat_int_int.f (([1] : List Int)) 256).bind fun t137 => ((bin_Get.f a0 6 t137).bind fun bt140 => ((chart_spans.f k 0 bt140.1).bind fun t144 => (some (t144, bt140.2))))) else (some (([] : List (S50)), 5))) = some (r1, r2) := h
 clear h
 by_cases c3 : a1 = 262
 ·
  rw [if_pos c3] at H
  have c3b0 : (a1 == 262) = true := beq_iff_eq.mpr c3
  have c3b1 : (a1 != 262) = false := bne_eq_false_iff_eq.mpr c3
  clear c3
  obtain ⟨y134, hy134⟩ : ∃ y_ : List Int, y_ = (([1] : List Int)) := ⟨_, rfl⟩
  replace H : ((slices_Repeat_int_int.f y134 256).bind fun t137 => ((bin_Get.f a0 6 t137).bind fun bt140 => ((chart_spans.f k 0 bt140.1).bind fun t144 => (some (t144, bt140.2))))) = some (r1, r2) := by first | (rw [hy134]; with_reducible exact H) | (have H2_ := (Option.bind_some _ _).symm.trans H; rw [hy134]; with_reducible exact H2_) | (have H2_ := (Option.bind_some _ _).symm.trans H; with_reducible exact H2_) | with_reducible exact H | (rw [hy134]; exact H) | exact H
  have Ny134 := Aside0.mk hy134
  clear hy134
  replace H := Option.bind_eq_some_iff.mp H
  obtain ⟨t137, A40, H⟩ := H
  try dsimp only at H
  have A4 := Aside0.mk A40
  clear A40
  replace H := Option.bind_eq_some_iff.mp H
  obtain ⟨⟨t140, t141⟩, A50, H⟩ := H
  try dsimp only at H
  have A5 := Aside0.mk A50
  clear A50
  replace H := Option.bind_eq_some_iff.mp H
  obtain ⟨t144, A60, H⟩ := H
  try dsimp only at H
  have A6 := Aside0.mk A60
  clear A60
  simp only [Option.some.injEq, Prod.mk.injEq] at H
  obtain ⟨rfl, rfl⟩ := H
  go_enter Try.func60, Try.ntmps60
  go_wp2_with (first | ((with_reducible refine gate_dst (N := 12) rfl ?_); refine Kd.R_lit (Kd.int .i64) _ 3 ?hg (N := 12) ?hd (xs := ([1] : List Int)) (inner := [.int .i64 1]) (ok := fun _ => True) (okp := fun _ => True) ?hr ?hp (fun _ hk => hk) trivial (Below.refl _ _) (Nat.le_refl _) (by simp) ?_; (case hd => rfl); (case hg => rfl); (case hr => exact hA); (case hp => exact (Reps.one (show Kd.M (Kd.int .i64) _ _ _ 1 [.int .i64 1] from rfl) (Reps.none _ _))); intro v135 w7 ho8 hb hg_ hnew_; clear hg_ hnew_; (first | rw [← Ny134.out] at ho8 | (simp only [Int.reduceToNat] at ho8; rw [← Ny134.out] at ho8)); have HO136 := Aside0.mk (Kd.R_lower ho8 (below_size bA)); replace HB := Aside0.mk (below_step bA hb); clear hb ho8; obtain ⟨Ao9, co9, eo9⟩ := Kd.R_slice HO136.out; subst eo9) | ((with_reducible refine gate_callee (f := 23) rfl ?_); refine gL_ 13 Try.func23 #[.slice Ao9 y134.length co9, .int .i64 256] ?_; (with_reducible refine (slices_Repeat_int_int.calls _ _ y134 256 t137 _ ?side1 ?side2 A4.out).mono ?_); (case side1 => exact cA (Kd.R_reads' HO136.out).2.2); (case side2 => exact (Kd.R_reads' HO136.out).2.1); rintro e w10 ⟨v138, rfl, ho0, hb⟩; refine ⟨_, rfl, ?_⟩; have HO139 := Aside0.mk (Kd.R_lower (Kd.R_new' ho0 (Kd.R_lt (rA HO136.out))) (below_size bA)); replace HO136 := eL HO136 ho0 hb; replace HB := Aside0.mk (below_step bA hb); (try clear hb ho0); obtain ⟨Ao11, co11, eo11⟩ := Kd.R_slice HO139.out; subst eo11) | ((with_reducible refine gate_callee (f := 22) rfl ?_); refine gL_ 14 Try.func22 #[.string a0, .int .i64 6, .slice Ao11 t137.length co11] ?_; (with_reducible refine (bin_Get.calls a0 6 _ _ t137 t140 t141 _ ?side1 ?side2 A5.out).mono ?_); (case side1 => exact cA (Kd.R_reads' HO139.out).2.2); (case side2 => exact (Kd.R_reads' HO139.out).2.1); rintro e w12 ⟨v142, rfl, ho0, hb⟩; refine ⟨_, rfl, ?_⟩; have HO143 := Aside0.mk (Kd.R_lower (Kd.R_new' (Kd.R_new' ho0 (Kd.R_lt (rA HO136.out))) (Kd.R_lt (rA HO139.out))) (below_size bA)); replace HO136 := eL HO136 ho0 hb; replace HO139 := eL HO139 ho0 hb; replace HB := Aside0.mk (below_step bA hb); (try clear hb ho0); obtain ⟨Ao13, co13, eo13⟩ := Kd.R_slice HO143.out; subst eo13) | ((with_reducible refine gate_callee (f := 81) rfl ?_); refine gL_ 18 Try.func81 #[.int .i64 0, .slice Ao13 t140.length co13] ?_; (with_reducible refine (chart_spans.calls k 0 _ _ t140 t144 _ ?side1 ?side2 A6.out).mono ?_); (case side1 => exact cA (Kd.R_reads' HO143.out).2.2); (case side2 => exact (Kd.R_reads' HO143.out).2.1); rintro e w14 ⟨v145, rfl, ho0, hb⟩; refine ⟨_, rfl, ?_⟩; have HO146 := Aside0.mk (Kd.R_lower ho0 (below_size bA)); replace HO136 := Aside0.mk (Kd.R_below (rA HO136.out) hb); replace HO139 := Aside0.mk (Kd.R_below (rA HO139.out) hb); replace HO143 := Aside0.mk (Kd.R_below (rA HO143.out) hb); replace HB := Aside0.mk (below_step bA hb); (try clear hb ho0)))
  go_ret2
  exact ⟨_, eA, by (with_reducible repeat (first | apply Kd.R_alloc | apply Kd.R_drewN | apply Kd.R_drew)); exact HO146.out, by repeat (first | (with_reducible first | exact HB.out | apply below_alloc | apply pw_below_drewN | apply below_drew1) | exact HB.out)⟩
 ·
  rw [if_neg c3] at H
  have c3b0 : (a1 == 262) = false := beq_eq_false_iff_ne.mpr c3
  have c3b1 : (a1 != 262) = true := bne_iff_ne.mpr c3
  simp only [Option.some.injEq, Prod.mk.injEq] at H
  obtain ⟨rfl, rfl⟩ := H
  go_enter Try.func60, Try.ntmps60
  go_wp2
  go_ret2
  exact ⟨_, eA, nA, by repeat (first | (with_reducible first | exact HB.out | apply below_alloc | apply pw_below_drewN | apply below_drew1) | exact HB.out)⟩
end Go.Proofs.Ytejdflndgnpkcaa.P
end
section
namespace Go.Proofs.Ytejdflndgnpkcaa.P
open Go.RowKit Go.Proofs.YtejdflndgnpkcaaW.PrintWords Go.Proofs.YtejdflndgnpkcaaW.PrintLast Go.Proofs.YtejdflndgnpkcaaW.PrintMore
def w2 (s : ByteArray) (p : Nat) : Int := takeN (s.extract p s.size) 2
def w1 (s : ByteArray) (p : Nat) : Int := takeN (s.extract p s.size) 1
theorem w2_bd (s : ByteArray) (p : Nat) : 0 ≤ w2 s p ∧ w2 s p ≤ 65535 := by
 unfold w2 takeN
 rw [if_neg (by rintro ⟨h, _⟩; exact absurd h (by decide))]
 have := numAt_bd (s.extract p s.size) 2
 have e4 : (256 : Int) ^ 2 = 65536 := by decide
 rw [e4] at this
 have e : (2 : Int).natAbs = 2 := rfl
 rw [e]; omega
theorem w1_bt (s : ByteArray) (p : Nat) (h : p < s.size) : w1 s p = bt s (p : Int) := by
 unfold w1 takeN
 rw [if_neg (by rintro ⟨h, _⟩; exact absurd h (by decide))]
 have e : (1 : Int).natAbs = 1 := rfl
 rw [e]
 have hb := bt_range s (p : Int)
 simp only [numAt]
 unfold bt
 have h1 : ((0 : Nat) : Int).toNat < (s.extract p s.size).size := by simp; omega
 have h2 : ((p : Nat) : Int).toNat < s.size := by simp; omega
 first
  | (rw [dif_pos h1, dif_pos h2]; simp [ByteArray.getElem_extract])
  | (simp [h1, h2, ByteArray.getElem_extract, h])
theorem get_two (s : ByteArray) (p : Nat) : getN s (p : Int) [2, 2] = if p + 4 ≤ s.size then ([w2 s p, w2 s (p + 2)], 0) else ([], 4) := by
 have h := get_rep s (s := 2) (by decide) p 2
 have e : repN [2] 2 = [2, 2] := rfl
 have e2 : (2 : Int).natAbs = 2 := rfl
 rw [e, e2] at h
 refine Eq.trans h ?_
 by_cases hc : p + 4 ≤ s.size
 ·
  rw [if_pos hc, if_pos (by omega), show List.range 2 = [0, 1] from by decide]
  rfl
 · rw [if_neg hc, if_neg (by omega)]
def spansN (a : Int) : List Int → List S50
 | [] => []
 | g :: r => if g = 0 then spansN (a + 1) r else ⟨a, a, g, 1⟩ :: spansN (a + 1) r
theorem spans_len (a : Int) : ∀ (L : List Int), ∀ b, (spansN b L).length ≤ L.length
 | [], b => Nat.le_refl _
 | g :: r, b => by
  unfold spansN
  have := spans_len a r (b + 1)
  by_cases h : g = 0
  · rw [if_pos h, List.length_cons]; omega
  · rw [if_neg h, List.length_cons, List.length_cons]; omega
theorem spans_snoc (g : Int) : ∀ (L : List Int) (a : Int), spansN a (L ++ [g]) = spansN a L ++ (if g = 0 then [] else [⟨a + L.length, a + L.length, g, 1⟩])
 | [], a => by
  unfold spansN
  simp [spansN]
 | x :: r, a => by
  rw [List.cons_append]
  unfold spansN
  rw [spans_snoc g r (a + 1)]
  have e : a + 1 + (r.length : Int) = a + ((x :: r).length : Int) := by rw [List.length_cons]; omega
  rw [e]
  by_cases h : x = 0
  · rw [if_pos h, if_pos h]
  · rw [if_neg h, if_neg h, List.cons_append]
theorem spans_loop (L : List Int) (a : Int) (ha : 0 ≤ a) (hL : L.length ≤ 131072) (ha2 : a ≤ 131072) (d : Nat) : ∀ k i, L.length - i = d → i ≤ L.length → d + 1 ≤ k → chart_spans.l0 k a (spansN a (L.take i)) L (L.length : Int) (i : Int) = some (spansN a L) := by
 induction d with
 | zero =>
  intro k i hd hi hk
  obtain ⟨k, rfl⟩ : ∃ n, k = n + 1 := ⟨k - 1, by omega⟩
  have : i = L.length := by omega
  subst this
  simp only [chart_spans.l0]
  rw [if_neg (by omega), List.take_length]
 | succ d ih =>
  intro k i hd hi hk
  obtain ⟨k, rfl⟩ : ∃ n, k = n + 1 := ⟨k - 1, by omega⟩
  have hlt : i < L.length := by omega
  have hw : wrap64 ((i : Int) + 1) = ((i + 1 : Nat) : Int) := by unfold wrap64; omega
  have hw1 : wrap64 (a + (i : Int)) = a + (i : Int) := by unfold wrap64; omega
  have hr : rd L (i : Int) = L[i] := by unfold rd; simp [List.getD_eq_getElem?_getD, List.getElem?_eq_getElem hlt]
  have ht : L.take (i + 1) = L.take i ++ [L[i]] := by rw [List.take_add_one, List.getElem?_eq_getElem hlt]; rfl
  have hs := spans_snoc L[i] (L.take i) a
  rw [← ht] at hs
  have hli : (L.take i).length = i := by rw [List.length_take]; omega
  rw [hli] at hs
  have ih' := ih k (i + 1) (by omega) (by omega) (by omega)
  rw [hs] at ih'
  have hsl := spans_len a (L.take i) a
  simp only [chart_spans.l0]
  rw [if_pos (by omega), if_pos (by omega), if_pos (by omega), hr, hw, hw1]
  by_cases hg : L[i] = 0
  ·
   rw [if_pos hg]
   rw [if_pos hg, List.append_nil] at ih'
   exact ih'
  ·
   rw [if_neg hg, if_pos (by omega)]
   rw [if_neg hg] at ih'
   exact ih'
theorem spans_told (L : List Int) (a : Int) (ha : 0 ≤ a) (hL : L.length ≤ 131072) (ha2 : a ≤ 131072) (k : Nat) (hk : L.length + 1 ≤ k) : chart_spans.f k a L = some (spansN a L) := by
 have := spans_loop L a ha hL ha2 L.length k 0 rfl (by omega) hk
 rwa [List.take_zero] at this
def getC (s : ByteArray) : List S50 × Int :=
 if s.size < 4 then ([], 4)
 else if w2 s 0 = 0 then (if w2 s 2 = 262 then (if 262 ≤ s.size then (spansN 0 ((List.range 256).map (fun i => w1 s (6 + i))), 0) else ([], 4)) else ([], 5))
 else if w2 s 0 = 6 then (if s.size < 10 then ([], 4) else if w2 s 2 = 10 + 2 * w2 s 8 then (if (s.size : Int) < w2 s 2 then ([], 4) else if w2 s 6 + w2 s 8 > 65536 then ([], 5) else (spansN (w2 s 6) ((List.range (w2 s 8).toNat).map (fun i => w2 s (10 + 2 * i))), 0)) else ([], 5))
 else ([], 5)
theorem rep_told {z : Int} (n : Nat) (h : n ≤ 131072) : slices_Repeat_int_int.f [z] (n : Int) = some (repN [z] n) := by
 unfold slices_Repeat_int_int.f slices_Repeat.f
 rw [if_pos (by refine ⟨by omega, by omega, Nat.lt_of_lt_of_le (by decide : (1 : Nat) < 2) (by decide), ?_⟩; show 1 * ((n : Int)).toNat ≤ _; omega)]
 rfl
theorem rep_one (z : Int) (k : Nat) : (repN [z] k).length = k := by rw [repN_length]; exact Nat.one_mul _
theorem getSmall_told (s : ByteArray) (n : Int) (k : Nat) (hk : 300 ≤ k) : chart_getSmall.f k s n = some (if n = 262 then (if 262 ≤ s.size then (spansN 0 ((List.range 256).map (fun i => w1 s (6 + i))), 0) else ([], 4)) else ([], 5)) := by
 unfold chart_getSmall.f
 by_cases hn : n = 262
 ·
  have hr := rep_told (z := 1) 256 (by decide)
  have hr' : slices_Repeat_int_int.f [1] 256 = some (repN [1] 256) := hr
  have hg := get_rep s (s := 1) (by decide) 6 256
  have e2 : (1 : Int).natAbs = 1 := rfl
  rw [e2] at hg
  have hg' : getN s 6 (repN [1] 256) = if 6 + 1 * 256 ≤ s.size then ((List.range 256).map (fun i => takeN (s.extract (6 + 1 * i) s.size) 1), 0) else ([], 4) := hg
  rw [if_pos hn, if_pos hn, hr', Option.bind_some]
  unfold bin_Get.f
  rw [if_pos (by rw [rep_one]; decide), hg', Option.bind_some]
  by_cases hs : 262 ≤ s.size
  ·
   rw [if_pos (show 6 + 1 * 256 ≤ s.size by omega), if_pos hs]
   simp only [Nat.one_mul]
   rw [spans_told _ 0 (by decide) (by simp) (by decide) k (by simp; omega)]
   rfl
  ·
   rw [if_neg (show ¬ 6 + 1 * 256 ≤ s.size by omega), if_neg hs]
   simp only
   rw [spans_told [] 0 (by decide) (by simp) (by decide) k (by simp; omega)]
   rfl
 · rw [if_neg hn, if_neg hn]
end Go.Proofs.Ytejdflndgnpkcaa.P
end
