/- Words, contracts and plain facts of the proof. Each says its own condition. -/
import Derived.Test.YtejdflndgnpkcaaGreatZCmapDoesg
import Derived.Test.YtejdflndgnpkcaaGreatZCmapDoesm
import Derived.Deep.WholeRow
import Derived.Test.YtejdflndgnpkcaaGreatZCmapDoese
import Derived.Lib.AppendStr
set_option linter.unusedVariables false
set_option linter.unusedSimpArgs false
set_option maxHeartbeats 16000000
section
namespace Go.Proofs.YtejdflndgnpkcaaGreat.P
open Go.RowKit PW PL PM
set_option maxRecDepth 100000
attribute [local go_sem] max2_int min2_int max_two min_two max_three min_three max_four min_four
def byteOf (v : Int) (k : Nat) : UInt8 := UInt8.ofNat ((v / 256 ^ k) % 256).toNat
def bytesN (v : Int) : Nat → List UInt8
 | 0 => []
 | k + 1 => byteOf v k :: bytesN v k
def fitsN (v s : Int) : Bool := if s < 0 then decide (-(256 : Int) ^ s.natAbs ≤ 2 * v ∧ 2 * v < 256 ^ s.natAbs) else decide (0 ≤ v ∧ v < 256 ^ s.natAbs)
def puts : List Int → List Int → Option (List UInt8)
 | s :: r, v :: q => if fitsN v s = true then (puts r q).map (bytesN v s.natAbs ++ ·) else none
 | _, _ => some []
def putN (l m : List Int) : ByteArray × Int :=
 if areSizes l = false ∨ l.length ≠ m.length then (⟨#[]⟩, 1) else match puts l m with
  | none => (⟨#[]⟩, 2)
  | some b => (⟨b.toArray⟩, 0)
theorem bytesN_length (v : Int) : ∀ n, (bytesN v n).length = n
 | 0 => rfl
 | n + 1 => by simp [bytesN, bytesN_length v n]
theorem byteOf_nat (v : Int) (k : Nat) : ((byteOf v k).toNat : Int) = (v / 256 ^ k) % 256 := by
 unfold byteOf;have h : 0 ≤ (v / 256 ^ k) % 256 ∧ (v / 256 ^ k) % 256 < 256 := by omega
 generalize (v / 256 ^ k) % 256 = x at *
 simp
 omega
theorem fits_neg (v s half full : Int) (c1 : s < 0) (c2 : 0 ≤ wrap64 (wrap64 ((-8) * s) - 1)) (c3 : shl .i64 1 (wrap64 (wrap64 ((-8) * s) - 1)) = half) (c4 : wrap64 (-half) = -half) (c5 : (256 : Int) ^ s.natAbs = full) (c6 : full = 2 * half) : bin_fits.f v s = some (fitsN v s) := by
 unfold bin_fits.f fitsN;rw [if_pos c1, if_pos c1, if_pos c2, c3, c4, c5];by_cases h : v ≥ -half
 · rw [if_pos h, Option.some.injEq, decide_eq_decide]; omega
 rw [if_neg h]; symm; rw [Option.some.injEq]; exact decide_eq_false (by omega)
theorem fits_pos (v s full : Int) (c1 : ¬ s < 0) (c2 : 0 ≤ wrap64 (8 * s)) (c3 : shl .i64 1 (wrap64 (8 * s)) = full) (c5 : (256 : Int) ^ s.natAbs = full) : bin_fits.f v s = some (fitsN v s) := by
 unfold bin_fits.f fitsN;rw [if_neg c1, if_neg c1, if_pos c2, c3, c5];by_cases h : v ≥ 0
 · rw [if_pos h, Option.some.injEq, decide_eq_decide]; omega
 rw [if_neg h]; symm; rw [Option.some.injEq]; exact decide_eq_false (by omega)
theorem bin_fits.f_eq (v s : Int) (hs : isSize s = true) : bin_fits.f v s = some (fitsN v s) := by
 have h := of_decide_eq_true hs;have : s = -4 ∨ s = -3 ∨ s = -2 ∨ s = -1 ∨ s = 1 ∨ s = 2 ∨ s = 3 ∨ s = 4 := by omega
 clear hs h;rcases this with rfl | rfl | rfl | rfl | rfl | rfl | rfl | rfl
 · exact fits_neg v (-4) 2147483648 4294967296 (by decide +kernel) (by decide +kernel) (by decide +kernel) (by decide +kernel) (by decide +kernel) (by decide +kernel)
 · exact fits_neg v (-3) 8388608 16777216 (by decide +kernel) (by decide +kernel) (by decide +kernel) (by decide +kernel) (by decide +kernel) (by decide +kernel)
 · exact fits_neg v (-2) 32768 65536 (by decide +kernel) (by decide +kernel) (by decide +kernel) (by decide +kernel) (by decide +kernel) (by decide +kernel)
 · exact fits_neg v (-1) 128 256 (by decide +kernel) (by decide +kernel) (by decide +kernel) (by decide +kernel) (by decide +kernel) (by decide +kernel)
 · exact fits_pos v 1 256 (by decide +kernel) (by decide +kernel) (by decide +kernel) (by decide +kernel)
 · exact fits_pos v 2 65536 (by decide +kernel) (by decide +kernel) (by decide +kernel) (by decide +kernel)
 · exact fits_pos v 3 16777216 (by decide +kernel) (by decide +kernel) (by decide +kernel) (by decide +kernel)
 exact fits_pos v 4 4294967296 (by decide +kernel) (by decide +kernel) (by decide +kernel) (by decide +kernel)
structure PutW (w : World) (g : Nat) (W : World) (bs : List UInt8) : Prop where
 b : Lib.IsBuilder 83 5 w.heap.size g (Lib.byteCells bs) W
 e : bs = [] → ∃ p, W.heap[g]? = some (.cells #[p, .slice none 0 0] 83 (0, 0))
 hB : Below w.heap.size w W
theorem builderAt_below {T e : TypeId} {B b : Nat} {p : Value} {bs : List Value} {W W' : World} (h : Lib.BuilderAt T e B b p bs W) (hb : Below W.heap.size W W') : Lib.BuilderAt T e B b p bs W' := by
 have hlt := h.lt;obtain ⟨h1, v, h2, h3, h4⟩ := h;exact ⟨h1, v, (hb.block _ hlt).trans h2, own_move h3 (fun k hk => hb.block k (own_lt h3 k hk)), h4⟩
theorem PutW.below {w W W' : World} {g : Nat} {bs : List UInt8} (h : PutW w g W bs) (hb : Below W.heap.size W W') : PutW w g W' bs := by
 refine ⟨h.b.imp (fun x => builderAt_below x hb) (fun x => builderAt_below x hb), fun e => ?_, below_then h.hB h.hB.size hb⟩;obtain ⟨p, hp⟩ := h.e e;exact ⟨p, (hb.block g (blk_lt hp)).trans hp⟩
theorem PutW.wrote {w W W' : World} {g : Nat} {bs : List UInt8} (h : PutW w g W bs) (c : UInt8) (hb : Lib.BuilderAt 83 5 w.heap.size g (.pointer (some ⟨g, 0, none⟩)) (Lib.byteCells bs ++ [.int .u8 c.toNat]) W') (hB : Below w.heap.size W W') : PutW w g W' (bs ++ [c]) := by
 refine ⟨.inr ?_, fun e => absurd e (by simp), h.hB.trans hB⟩;have : Lib.byteCells (bs ++ [c]) = Lib.byteCells bs ++ [.int .u8 c.toNat] := by simp [Lib.byteCells]
 rw [this]; exact hb
set_option linter.unusedSimpArgs false in
theorem put_walk (A0 A1 : Option Addr) (c0 c1 : Nat) (l m : List Int) (w : World) (hr0 : Kd.C (Kd.int .i64) w A0 l.length l) (hc0 : l.length ≤ c0) (hr1 : Kd.C (Kd.int .i64) w A1 l.length m) (hc1 : l.length ≤ c1) (hl : l.length < 17592186044416)
    (hsz : areSizes l = true) (r : ByteArray × Int) (hr : putN l m = r) :
    Calls Tryz.prog 31 #[.slice A0 l.length c0, .slice A1 l.length c1] w fun e w' => e = .returned (.tuple #[.string r.1, .int .i64 r.2]) ∧ Below w.heap.size w w' := by
  have hml : m.length = l.length := hr1.1;have hz := (zero_of_info (P := Tryz.prog) (t := 83) (v := .agg #[.pointer none, .slice none 0 0]) (n := 2) (by kernel_rfl)).1;have HR := hI hr;have HL := hI hl;have HML := hI hml;have HSZ := hI hsz;have HR0 := hI hr0;have HC0 := hI hc0;have HR1 := hI hr1;have HC1 := hI hc1;clear hr hl hsz hr0 hc0 hr1 hc1 hml;go_enter Tryz.func31, Tryz.ntmps31;go_wp2_with fail
  refine (bin_right.calls (l.length + 1) A0 c0 l true _ HR0.out HC0.out (by rw [bin_right.f_eq l (by have := HL.out; omega), HSZ.out])).mono ?_;rintro e w1 ⟨rfl, hd⟩;go_wp2_with fail
  have P0 : PutW w w1.heap.size (w1.alloc (.cells #[.pointer none, .slice none 0 0] 83)) [] := by
    have hB : Below w.heap.size w w1 := hd.below;have e0 : (w1.alloc (.cells #[.pointer none, .slice none 0 0] 83)).heap[w1.heap.size]? = some (.cells #[.pointer none, .slice none 0 0] 83 (0, 0)) := (MapKept.heap_alloc w1 _).1;exact ⟨.inl ⟨hB.size, _, e0, World.ownsRow_nil _ _ _ _, by simp [Value.ownBlock]⟩, fun _ => ⟨_, e0⟩, hB.alloc hB.size _⟩
  have HP := hI P0;clear hd P0;go_loopw [22] (fun v22 wr => ∃ (i : Nat) (bs : List UInt8), i ≤ l.length ∧ v22 = .int .i64 (i : Int) ∧ Aside0 (bs.length ≤ 4 * i) ∧ Aside0 (PutW w w1.heap.size wr bs) ∧ Aside0 ((puts (l.drop i) (m.drop i)).map (bs ++ ·) = puts l m)) (fun v22 _ => l.length - (intOf v22).toNat)
  case atStart => exact ⟨0, [], by omega, rfl, ⟨by simp⟩, ⟨HP.out⟩, ⟨by simp⟩⟩
  case round =>
    obtain ⟨i, bs, hi, rfl, HBL, HW, HT⟩ := hrel;by_cases hlt : i < l.length
    · have q1 : (i : Int) < (l.length : Int) := by omega
      have q0 : 0 ≤ (i : Int) := by omega
      have d1 : decide ((i : Int) < (l.length : Int)) = true := decide_eq_true q1;obtain ⟨x, hx⟩ : ∃ x, x = rd l (i : Int) := ⟨_, rfl⟩;obtain ⟨v, hv⟩ : ∃ v, v = rd m (i : Int) := ⟨_, rfl⟩;have hltm : i < m.length := by rw [HML.out]; exact hlt
      have hxl : l.drop i = x :: l.drop (i + 1) := by rw [List.drop_eq_getElem_cons hlt, hx]; unfold rd; simp [List.getD_eq_getElem?_getD, List.getElem?_eq_getElem hlt]
      have hvm : m.drop i = v :: m.drop (i + 1) := by rw [List.drop_eq_getElem_cons hltm, hv]; unfold rd; simp [List.getD_eq_getElem?_getD, List.getElem?_eq_getElem hltm]
      have hxs : isSize x = true := by
        have := List.all_eq_true.1 HSZ.out x (by have : x ∈ l.drop i := by rw [hxl]; simp
                                                 exact List.mem_of_mem_drop this)
        exact this
      obtain ⟨ad, e101, hcell0⟩ := Kd.at_int HR0.out (i : Int) q0 q1;cases e101
      have HR1' : Kd.C (Kd.int .i64) w A1 m.length m := by rw [HML.out]; exact HR1.out
      obtain ⟨ae, e102, hcell20⟩ := Kd.at_int HR1' (i : Int) q0 (by rw [HML.out]; exact q1);cases e102
      rw [← hx, Int.toNat_natCast] at hcell0;rw [← hv, Int.toNat_natCast] at hcell20;have hcell := (HW.out.hB.cell (World.block_lt_of_cell? _ _ hcell0)).trans hcell0;have hcell2 := (HW.out.hB.cell (World.block_lt_of_cell? _ _ hcell20)).trans hcell20;have HCV := hI hcell20;clear hcell0 hcell20;have HXX := hI hxl;have HVV := hI hvm;have HXS := hI hxs;clear hx hv hxl hvm hxs hltm HR1';replace q0 := eq_true q0;replace q1 := eq_true q1;go_wp2_with fail
      cases hf : fitsN v x with
      | false =>
        have HF := hI hf;clear hf;refine (bin_fits.calls v x false _ (by rw [bin_fits.f_eq v x HXS.out, HF.out])).mono ?_;rintro e u1 ⟨rfl, hd⟩;go_wp2;go_ret2
        have hres : r = (⟨#[]⟩, 2) := by
          have h1 := HT.out;rw [HXX.out, HVV.out] at h1;simp only [puts] at h1;rw [HF.out, if_neg Bool.false_ne_true] at h1;rw [← HR.out];unfold putN
          rw [if_neg (by rintro (h | h); · rw [HSZ.out] at h; exact absurd h (by decide)
                         · exact h HML.out.symm), ← h1]
          rfl
        rw [hres];exact ⟨rfl, below_then HW.out.hB HW.out.hB.size hd.below⟩
      | true =>
        have HF := hI hf;clear hf;refine (bin_fits.calls v x true _ (by rw [bin_fits.f_eq v x HXS.out, HF.out])).mono ?_;rintro e u1 ⟨rfl, hd⟩;have HW1 := hI (HW.out.below hd.below);clear hd;have hsz := of_decide_eq_true HXS.out;obtain ⟨n, hn⟩ : ∃ n, n = x.natAbs := ⟨_, rfl⟩;have hn4 : n ≤ 4 := by omega
        have HNX := hI hn
        have HVX := hI (show (puts (l.drop (i + 1)) (m.drop (i + 1))).map ((bs ++ bytesN v n) ++ ·) = puts l m by
          rw [← HT.out, HXX.out, HVV.out];simp only [puts];rw [HF.out, if_pos rfl, Option.map_map, hn];congr 1
          funext y
          simp)
        have : x = -4 ∨ x = -3 ∨ x = -2 ∨ x = -1 ∨ x = 1 ∨ x = 2 ∨ x = 3 ∨ x = 4 := by omega
        have hbl : bs.length ≤ 4 * i := HBL.out;have HBL2 := hI hbl;clear hsz HT HXX HVV HXS HF hn hbl HBL;rcases this with rfl | rfl | rfl | rfl | rfl | rfl | rfl | rfl
        all_goals
          have hne := HNX.out;go_wp2_with fail
          go_loopw [9] (fun v9 ws => ∃ (k : Nat) (dn : List UInt8), k ≤ n ∧ v9 = .int .i64 ((k : Int) - 1) ∧ Aside0 (dn ++ bytesN v k = bytesN v n) ∧ Aside0 (PutW w w1.heap.size ws (bs ++ dn))) (fun v9 _ => (intOf v9 + 1).toNat)
          case atStart => exact ⟨n, [], Nat.le_refl _, by rw [hne]; rfl, ⟨rfl⟩, ⟨by rw [List.append_nil]; exact HW1.out⟩⟩
          case round =>
            obtain ⟨k, dn, hk, rfl, HD, HV⟩ := hrel;have hk5 : k = 0 ∨ k = 1 ∨ k = 2 ∨ k = 3 ∨ k = 4 := by omega
            have c2 := (HV.out.hB.cell (World.block_lt_of_cell? _ _ HCV.out)).trans HCV.out;have hwi : wrap64 ((i : Int) + 1) = (i : Int) + 1 := by have := HL.out; unfold wrap64; omega
            have HWI := hI hwi
            have HLE := hI (show (Lib.byteCells (bs ++ dn)).length + 1 ≤ 140737488355328 by
              have h1 := congrArg List.length HD.out;rw [List.length_append, bytesN_length, bytesN_length] at h1;have h2 := HBL2.out;have h3 := HL.out;rw [Lib.byteCells_length, List.length_append]; omega)
            clear hwi;rcases hk5 with rfl | rfl | rfl | rfl | rfl
            · have hdn : dn = bytesN v n := by have := HD.out; simpa [bytesN] using this
              subst hdn;go_wp2;exact ⟨⟨i + 1, bs ++ bytesN v n, by omega, by rw [HWI.out]; rfl, ⟨by have := HBL2.out; rw [List.length_append, bytesN_length]; omega⟩, ⟨HV.out⟩, ⟨HVX.out⟩⟩, by rw [HWI.out]; exact less_left hlt⟩
            all_goals
              first | (exact absurd hk (by rw [hne]; decide)) | skip
            all_goals
              go_wp2_with fail
              refine (writeByte_calls w.heap.size w1.heap.size (Lib.byteCells (bs ++ dn)) _ _ HV.out.b HLE.out HV.out.hB.size).mono ?_;rintro e u2 ⟨rfl, hb, hB⟩;first
              | (have HV2 := hI (HV.out.wrote (byteOf v 0) (by rw [byteOf_nat]; simpa using hb) hB); have HD2 := hI (show (dn ++ [byteOf v 0]) ++ bytesN v 0 = bytesN v n by rw [← HD.out]; simp [bytesN]))
              | (have HV2 := hI (HV.out.wrote (byteOf v 1) (by rw [byteOf_nat]; simpa using hb) hB); have HD2 := hI (show (dn ++ [byteOf v 1]) ++ bytesN v 1 = bytesN v n by rw [← HD.out]; simp [bytesN]))
              | (have HV2 := hI (HV.out.wrote (byteOf v 2) (by rw [byteOf_nat]; simpa using hb) hB); have HD2 := hI (show (dn ++ [byteOf v 2]) ++ bytesN v 2 = bytesN v n by rw [← HD.out]; simp [bytesN]))
              | (have HV2 := hI (HV.out.wrote (byteOf v 3) (by rw [byteOf_nat]; simpa using hb) hB); have HD2 := hI (show (dn ++ [byteOf v 3]) ++ bytesN v 3 = bytesN v n by rw [← HD.out]; simp [bytesN]))
              clear hb hB;go_wp2;exact ⟨⟨_, _, by omega, rfl, ⟨HD2.out⟩, ⟨by have := HV2.out; rw [List.append_assoc] at this; exact this⟩⟩, by decide⟩
    have hie : i = l.length := by omega
    have d1 : decide ((i : Int) < (l.length : Int)) = false := decide_eq_false (by omega)
    have hres : r = (⟨bs.toArray⟩, 0) := by
      have h1 := HT.out;rw [hie, List.drop_length] at h1;simp only [puts, Option.map_some, List.append_nil] at h1;rw [← HR.out];unfold putN
      rw [if_neg (by rintro (h | h); · rw [HSZ.out] at h; exact absurd h (by decide)
                     · exact h HML.out.symm), ← h1]
    have HRES := hI hres;clear hie hres HT HBL;go_wp2_with fail
    cases bs with
    | nil =>
      obtain ⟨p, hp⟩ := HW.out.e rfl;refine (string_nil w.heap.size w1.heap.size p _ hp).mono ?_;rintro e u1 ⟨rfl, hb⟩;have HB := hI (HW.out.hB.trans hb);clear hb hp;go_wp2;go_ret2;rw [HRES.out];exact ⟨rfl, HB.out⟩
    | cons y ys =>
      refine (string_calls w.heap.size w1.heap.size (y :: ys) _ HW.out.b (by simp)).mono ?_;rintro e u1 ⟨rfl, hb⟩;have HB := hI (HW.out.hB.trans hb);clear hb;go_wp2;go_ret2;rw [HRES.out];exact ⟨rfl, HB.out⟩
theorem put_size (A0 A1 : Option Addr) (c0 c1 : Nat) (l m : List Int) (w : World) (hr0 : Kd.C (Kd.int .i64) w A0 l.length l) (hc0 : l.length ≤ c0) (hl : l.length < 17592186044416) (hsz : areSizes l = false) :
  Calls Tryz.prog 31 #[.slice A0 l.length c0, .slice A1 m.length c1] w fun e w' => e = .returned (.tuple #[.string ⟨#[]⟩, .int .i64 1]) ∧ Below w.heap.size w w' := by
 have HL := hI hl;have HSZ := hI hsz;have HR0 := hI hr0;have HC0 := hI hc0;clear hl hsz hr0 hc0;go_enter Tryz.func31, Tryz.ntmps31;go_wp2_with fail
 refine (bin_right.calls (l.length + 1) A0 c0 l false _ HR0.out HC0.out (by rw [bin_right.f_eq l (by have := HL.out; omega), HSZ.out])).mono ?_;rintro e w1 ⟨rfl, hd⟩;have HB := hI hd.below;clear hd;go_wp2;go_ret2;exact ⟨rfl, HB.out⟩
theorem put_lens (A0 A1 : Option Addr) (c0 c1 : Nat) (l m : List Int) (w : World) (hr0 : Kd.C (Kd.int .i64) w A0 l.length l) (hc0 : l.length ≤ c0) (hl : l.length < 17592186044416) (hsz : areSizes l = true) (hne : l.length ≠ m.length) :
  Calls Tryz.prog 31 #[.slice A0 l.length c0, .slice A1 m.length c1] w fun e w' => e = .returned (.tuple #[.string ⟨#[]⟩, .int .i64 1]) ∧ Below w.heap.size w w' := by
 have HL := hI hl;have HSZ := hI hsz;have HR0 := hI hr0;have HC0 := hI hc0;have b1 : ((l.length : Int) != (m.length : Int)) = true := bne_iff_ne.mpr (by omega);have b2 : (l.length != m.length) = true := by simpa using hne
 have b3 : (l.length == m.length) = false := by simpa using hne
 clear hl hsz hr0 hc0 hne;go_enter Tryz.func31, Tryz.ntmps31;go_wp2_with fail
 refine (bin_right.calls (l.length + 1) A0 c0 l true _ HR0.out HC0.out (by rw [bin_right.f_eq l (by have := HL.out; omega), HSZ.out])).mono ?_;rintro e w1 ⟨rfl, hd⟩;have HB := hI hd.below;clear hd;go_wp2;go_ret2;exact ⟨rfl, HB.out⟩
def bin_Put.f (l0 l1 : List Int) : Option (ByteArray × Int) := if l0.length < 17592186044416 then some (putN l0 l1) else none
theorem bin_Put.calls (A0 : Option Addr) (c0 : Nat) (l0 : List Int) (A1 : Option Addr) (c1 : Nat) (l1 : List Int) (r1 : ByteArray) (r2 : Int) (w : World) (hr0 : Kd.C (Kd.int .i64) w A0 l0.length l0) (hc0 : l0.length ≤ c0) (hr1 : Kd.C (Kd.int .i64) w A1 l1.length l1) (hc1 : l1.length ≤ c1) (h : bin_Put.f l0 l1 = some (r1, r2)) :
  Calls Tryz.prog 31 #[.slice A0 l0.length c0, .slice A1 l1.length c1] w fun e w' => e = .returned (.tuple #[.string r1, .int .i64 r2]) ∧ Below w.heap.size w w' := by
 unfold bin_Put.f at h;by_cases hl : l0.length < 17592186044416
 case neg => rw [if_neg hl] at h; exact absurd h (by simp)
 rw [if_pos hl] at h;have hg := Option.some.inj h;cases hs : areSizes l0 with
 | false =>
  unfold putN at hg;rw [if_pos (.inl hs)] at hg;obtain ⟨rfl, rfl⟩ := Prod.mk.inj hg;exact put_size A0 A1 c0 c1 l0 l1 w hr0 hc0 hl hs
 | true =>
  by_cases hn : l0.length = l1.length
  ·
   have e : (#[.slice A0 l0.length c0, .slice A1 l1.length c1] : Array Value) = #[.slice A0 l0.length c0, .slice A1 l0.length c1] := by rw [hn]
   rw [e];exact put_walk A0 A1 c0 c1 l0 l1 w hr0 hc0 (by rw [hn]; exact hr1) (by rw [hn]; exact hc1) hl hs (r1, r2) hg
  unfold putN at hg;rw [if_pos (.inr hn)] at hg;obtain ⟨rfl, rfl⟩ := Prod.mk.inj hg;exact put_lens A0 A1 c0 c1 l0 l1 w hr0 hc0 hl hs hn
end Go.Proofs.YtejdflndgnpkcaaGreat.P
end
section
namespace Go.Proofs.YtejdflndgnpkcaaGreat.P
open Go.RowKit PW PL PM
set_option maxRecDepth 100000
theorem copy_calls2 (B b : Nat) (bs : List Value) (w : World) (h : Lib.IsBuilder 83 5 B b bs w) :
  Calls Tryz.prog 93 #[.pointer (some ⟨b, 0, none⟩)] w fun e w' => e = .returned (.tuple #[]) ∧ (Lib.BuilderAt 83 5 B b (.pointer (some ⟨b, 0, none⟩)) bs w' ∧ Below B w w' ∧ ∀ k, k ≠ b → w'.heap[k]? = w.heap[k]?) := by
 rcases h with h | h
 ·
  refine (copy_fresh b w h.cell0 h.shape h.frozen0).mono ?_;rintro e w' ⟨rfl, rfl⟩;exact ⟨rfl, h.used _, (Below.refl B w).setCell (p := ⟨b, 0, none⟩) h.1 _, fun k hk => Below.heap_setCell _ _ _ k (by exact hk)⟩
 refine (copy_used b w h.cell0).mono ?_;rintro e w' ⟨rfl, rfl⟩;exact ⟨rfl, h, Below.refl B _, fun _ _ => rfl⟩
theorem writeString_calls (B b : Nat) (bs : List Value) (s : ByteArray) (w : World) (h : Lib.IsBuilder 83 5 B b bs w) (h0 : 0 < s.size) (hlen : bs.length + s.size ≤ 140737488355328) (hBw : B ≤ w.heap.size) :
  Calls Tryz.prog 75 #[.pointer (some ⟨b, 0, none⟩), .string s] w fun e w' => e = .returned (.tuple #[.int .i64 (s.size : Int), .nilIface]) ∧ (Lib.BuilderAt 83 5 B b (.pointer (some ⟨b, 0, none⟩)) (bs ++ Lib.strCells s) w' ∧ Below B w w' ∧ ∀ k cur t z, w.heap[k]? = some (.cells cur t z) → t ≠ 5 → k ≠ b → w'.heap[k]? = w.heap[k]?) := by
 obtain ⟨i0, hi, hz0, hz1, hz2⟩ := info_parts byteInfo;have HLN := hI hlen;have HS0 := hI h0;have HBW := hI hBw;clear hlen h0 hBw;go_enter Tryz.func75, Tryz.ntmps75;go_wp2_with fail
 refine (copy_calls2 B b bs _ h).mono ?_;rintro e w1 ⟨rfl, h1, hb1, ho1⟩;obtain ⟨hB, v, hbk, hown, hne⟩ := h1;have c0 : w1.cell? ⟨b, 0, none⟩ = some (.pointer (some ⟨b, 0, none⟩)) := by rw [Lib.cell_of_heap hbk]; rfl
 have c1 : w1.cell? ⟨b, 1, none⟩ = some v := by rw [Lib.cell_of_heap hbk]; rfl
 go_wp2_with (at_builtin; refine Lib.wpList_append_own_string _ rfl _ _ 81 9 rfl B 5 i0 Tryz.underlying81 Tryz.underlying9 hi hz0 hz1 hz2 v bs.length bs rfl hown s rfl ?c3 ?c4 ?c5 ?_)
 case c3 => have := HLN.out; unfold maxLen; omega
 case c4 => exact HLN.out
 case c5 => have := hb1.size; have := HBW.out; omega
 intro v' w2 hown' hgrow _
 have hb2 : w2.heap[b]? = some (.cells #[.pointer (some ⟨b, 0, none⟩), v] 83 (0, 0)) := by
  rw [hgrow.block b (blk_lt hbk) (fun e => hne e.symm)];exact hbk
 have d0 : w2.cell? ⟨b, 0, none⟩ = some (.pointer (some ⟨b, 0, none⟩)) := by rw [Lib.cell_of_heap hb2]; rfl
 have d1 : w2.cell? ⟨b, 1, none⟩ = some v := by rw [Lib.cell_of_heap hb2]; rfl
 have f1 : w2.frozen? ⟨b, 1, none⟩ = false := Lib.frozen_of_heap hb2 1
 obtain ⟨g, cap, rfl⟩ : ∃ g cap, v' = .slice (some ⟨g, 0, none⟩) (bs.length + s.size) cap := by
  rcases hown'.2 with ⟨_, h0⟩ | ⟨g, cap, cur, hv, _⟩
  · have := HS0.out; omega
  exact ⟨g, cap, hv⟩
 go_wp2;go_ret2;refine ⟨rfl, ?_, ?_, ?_⟩
 · exact Lib.BuilderAt.put (T := 83) (e := 5) hB hb2 (bs' := bs ++ Lib.strCells s) (by simpa [Lib.strCells_length] using hown') (by decide)
 · exact (hb1.grown hgrow (by have := hb1.size; have := HBW.out; omega) (fun k hk => (hown.lt k hk).1)).setCell (p := ⟨b, 1, none⟩) hB _
 intro k cur t z hk ht hkb;have hk1 : w1.heap[k]? = some (.cells cur t z) := (ho1 k hkb).trans hk;have hlt : k < w1.heap.size := blk_lt hk1
 have hkv : some k ≠ v.ownBlock := by
  intro e;rcases hown.2 with ⟨h1, _⟩ | ⟨g', cap', cur', hv, _, hg', _⟩
  · rw [h1] at e; simp [Value.ownBlock] at e
  rw [hv] at e;simp only [Value.ownBlock, Option.some.injEq] at e;rw [← e, hk1] at hg';simp only [Option.some.injEq, Obj.cells.injEq] at hg';exact ht hg'.2.1
 exact (Below.heap_setCell _ _ _ k (by exact hkb)).trans ((hgrow.block k hlt hkv).trans (ho1 k hkb))
theorem PutW.wroteS {w W W' : World} {g : Nat} {bs : List UInt8} (h : PutW w g W bs) (s : ByteArray) (h0 : 0 < s.size) (hb : Lib.BuilderAt 83 5 w.heap.size g (.pointer (some ⟨g, 0, none⟩)) (Lib.byteCells bs ++ Lib.strCells s) W') (hB : Below w.heap.size W W') : PutW w g W' (bs ++ s.data.toList) := by
 refine ⟨.inr ?_, fun e => ?_, h.hB.trans hB⟩
 ·
  have : Lib.byteCells (bs ++ s.data.toList) = Lib.byteCells bs ++ Lib.strCells s := by simp [Lib.byteCells, Lib.strCells]
  rw [this]; exact hb
 have h1 : s.data.toList = [] := (List.append_eq_nil_iff.1 e).2;have h2 : s.size = s.data.toList.length := by rw [Array.length_toList]; rfl
 rw [h1] at h2;have h3 : s.size = 0 := h2;omega
end Go.Proofs.YtejdflndgnpkcaaGreat.P
end
