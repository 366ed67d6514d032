/- A part of the proof of the law GlyfDeep: the words, contracts and plain facts that it needs, no more. Each says its own condition. -/
import Derived.Test.YtjmliafplgjkhaaZGlyfDeepl
import Derived.Test.YtjmliafplgjkhaaZGlyfDeepm
import Derived.Test.YtjmliafplgjkhaaZGlyfDeepn
import Derived.Deep.WholeRow
import Derived.Test.YtjmliafplgjkhaaZGlyfDeepi
section
namespace Go.Proofs.Ytjmliafplgjkhaa.P
open Go.RowKit Go.Proofs.YtjmliafplgjkhaaW.PrintWords Go.Proofs.YtjmliafplgjkhaaW.PrintLast Go.Proofs.YtjmliafplgjkhaaW.PrintMore
attribute [local go_sem] max2_int min2_int max_two min_two max_three min_three max_four min_four
def byteOf (v : Int) (k : Nat) : UInt8 := UInt8.ofNat ((v / 256 ^ k) % 256).toNat
def bytesN (v : Int) : Nat → List UInt8
  | 0 => []
  | k + 1 => byteOf v k :: bytesN v k
def fitsN (v s : Int) : Bool := if s < 0 then decide (-(256 : Int) ^ s.natAbs ≤ 2 * v ∧ 2 * v < 256 ^ s.natAbs) else decide (0 ≤ v ∧ v < 256 ^ s.natAbs)
def puts : List Int → List Int → Option (List UInt8)
  | s :: r, v :: q => if fitsN v s = true then (puts r q).map (bytesN v s.natAbs ++ ·) else none
  | _, _ => some []
def putN (l m : List Int) : ByteArray × Int :=
  if areSizes l = false ∨ l.length ≠ m.length then (⟨#[]⟩, 1) else match puts l m with
    | none => (⟨#[]⟩, 2)
    | some b => (⟨b.toArray⟩, 0)
theorem bytesN_length (v : Int) : ∀ n, (bytesN v n).length = n
  | 0 => rfl
  | n + 1 => by simp [bytesN, bytesN_length v n]
theorem byteOf_nat (v : Int) (k : Nat) : ((byteOf v k).toNat : Int) = (v / 256 ^ k) % 256 := by
  unfold byteOf
  have h : 0 ≤ (v / 256 ^ k) % 256 ∧ (v / 256 ^ k) % 256 < 256 := by omega
  generalize (v / 256 ^ k) % 256 = x at *
  simp
  omega
theorem fits_neg (v s half full : Int) (c1 : s < 0) (c2 : 0 ≤ wrap64 (wrap64 ((-8) * s) - 1)) (c3 : shl .i64 1 (wrap64 (wrap64 ((-8) * s) - 1)) = half) (c4 : wrap64 (-half) = -half) (c5 : (256 : Int) ^ s.natAbs = full) (c6 : full = 2 * half) : bin_fits.f v s = some (fitsN v s) := by
  unfold bin_fits.f fitsN
  rw [if_pos c1, if_pos c1, if_pos c2, c3, c4, c5]
  by_cases h : v ≥ -half
  · rw [if_pos h, Option.some.injEq, decide_eq_decide]; omega
  · rw [if_neg h]; symm; rw [Option.some.injEq]; exact decide_eq_false (by omega)
theorem fits_pos (v s full : Int) (c1 : ¬ s < 0) (c2 : 0 ≤ wrap64 (8 * s)) (c3 : shl .i64 1 (wrap64 (8 * s)) = full) (c5 : (256 : Int) ^ s.natAbs = full) : bin_fits.f v s = some (fitsN v s) := by
  unfold bin_fits.f fitsN
  rw [if_neg c1, if_neg c1, if_pos c2, c3, c5]
  by_cases h : v ≥ 0
  · rw [if_pos h, Option.some.injEq, decide_eq_decide]; omega
  · rw [if_neg h]; symm; rw [Option.some.injEq]; exact decide_eq_false (by omega)
theorem bin_fits.f_eq (v s : Int) (hs : isSize s = true) : bin_fits.f v s = some (fitsN v s) := by
  have h := of_decide_eq_true hs
  have : s = -4 ∨ s = -3 ∨ s = -2 ∨ s = -1 ∨ s = 1 ∨ s = 2 ∨ s = 3 ∨ s = 4 := by omega
  clear hs h
  rcases this with rfl | rfl | rfl | rfl | rfl | rfl | rfl | rfl
  · exact fits_neg v (-4) 2147483648 4294967296 (by decide +kernel) (by decide +kernel) (by decide +kernel) (by decide +kernel) (by decide +kernel) (by decide +kernel)
  · exact fits_neg v (-3) 8388608 16777216 (by decide +kernel) (by decide +kernel) (by decide +kernel) (by decide +kernel) (by decide +kernel) (by decide +kernel)
  · exact fits_neg v (-2) 32768 65536 (by decide +kernel) (by decide +kernel) (by decide +kernel) (by decide +kernel) (by decide +kernel) (by decide +kernel)
  · exact fits_neg v (-1) 128 256 (by decide +kernel) (by decide +kernel) (by decide +kernel) (by decide +kernel) (by decide +kernel) (by decide +kernel)
  · exact fits_pos v 1 256 (by decide +kernel) (by decide +kernel) (by decide +kernel) (by decide +kernel)
  · exact fits_pos v 2 65536 (by decide +kernel) (by decide +kernel) (by decide +kernel) (by decide +kernel)
  · exact fits_pos v 3 16777216 (by decide +kernel) (by decide +kernel) (by decide +kernel) (by decide +kernel)
  · exact fits_pos v 4 4294967296 (by decide +kernel) (by decide +kernel) (by decide +kernel) (by decide +kernel)
structure PutW (w : World) (g : Nat) (W : World) (bs : List UInt8) : Prop where
  b : Lib.IsBuilder 52 5 w.heap.size g (Lib.byteCells bs) W
  e : bs = [] → ∃ p, W.heap[g]? = some (.cells #[p, .slice none 0 0] 52 (0, 0))
  hB : Below w.heap.size w W
theorem builderAt_below {T e : TypeId} {B b : Nat} {p : Value} {bs : List Value} {W W' : World} (h : Lib.BuilderAt T e B b p bs W) (hb : Below W.heap.size W W') : Lib.BuilderAt T e B b p bs W' := by
  have hlt := h.lt
  obtain ⟨h1, v, h2, h3, h4⟩ := h
  exact ⟨h1, v, (hb.block _ hlt).trans h2, own_move h3 (fun k hk => hb.block k (own_lt h3 k hk)), h4⟩
theorem PutW.below {w W W' : World} {g : Nat} {bs : List UInt8} (h : PutW w g W bs) (hb : Below W.heap.size W W') : PutW w g W' bs := by
  refine ⟨h.b.imp (fun x => builderAt_below x hb) (fun x => builderAt_below x hb), fun e => ?_, below_then h.hB h.hB.size hb⟩
  obtain ⟨p, hp⟩ := h.e e
  exact ⟨p, (hb.block g (blk_lt hp)).trans hp⟩
theorem PutW.wrote {w W W' : World} {g : Nat} {bs : List UInt8} (h : PutW w g W bs) (c : UInt8) (hb : Lib.BuilderAt 52 5 w.heap.size g (.pointer (some ⟨g, 0, none⟩)) (Lib.byteCells bs ++ [.int .u8 c.toNat]) W') (hB : Below w.heap.size W W') : PutW w g W' (bs ++ [c]) := by
  refine ⟨.inr ?_, fun e => absurd e (by simp), h.hB.trans hB⟩
  have : Lib.byteCells (bs ++ [c]) = Lib.byteCells bs ++ [.int .u8 c.toNat] := by simp [Lib.byteCells]
  rw [this]; exact hb
set_option linter.unusedSimpArgs false in
set_option maxHeartbeats 2000000 in
theorem put_walk (A0 A1 : Option Addr) (c0 c1 : Nat) (l m : List Int) (w : World) (hr0 : Kd.C (Kd.int .i64) w A0 l.length l) (hc0 : l.length ≤ c0) (hr1 : Kd.C (Kd.int .i64) w A1 l.length m) (hc1 : l.length ≤ c1) (hl : l.length < 17592186044416)
    (hsz : areSizes l = true) (r : ByteArray × Int) (hr : putN l m = r) :
    Calls Try.prog 23 #[.slice A0 l.length c0, .slice A1 l.length c1] w fun e w' => e = .returned (.tuple #[.string r.1, .int .i64 r.2]) ∧ Below w.heap.size w w' := by
  have hml : m.length = l.length := hr1.1
  have hz := (zero_of_info (P := Try.prog) (t := 52) (v := .agg #[.pointer none, .slice none 0 0]) (n := 2) (by kernel_rfl)).1
  have HR := Lib.hid hr
  have HL := Lib.hid hl
  have HML := Lib.hid hml
  have HSZ := Lib.hid hsz
  have HR0 := Lib.hid hr0
  have HC0 := Lib.hid hc0
  have HR1 := Lib.hid hr1
  have HC1 := Lib.hid hc1
  clear hr hl hsz hr0 hc0 hr1 hc1 hml
  go_enter Try.func23, Try.ntmps23
  go_wp2_with fail
  refine (bin_right.calls (l.length + 1) A0 c0 l true _ HR0.out HC0.out (by rw [bin_right.f_eq l (by have := HL.out; omega), HSZ.out])).mono ?_
  rintro e w1 ⟨rfl, hd⟩
  go_wp2_with fail
  have P0 : PutW w w1.heap.size (w1.alloc (.cells #[.pointer none, .slice none 0 0] 52)) [] := by
    have hB : Below w.heap.size w w1 := hd.below
    have e0 : (w1.alloc (.cells #[.pointer none, .slice none 0 0] 52)).heap[w1.heap.size]? = some (.cells #[.pointer none, .slice none 0 0] 52 (0, 0)) := (MapKept.heap_alloc w1 _).1
    exact ⟨.inl ⟨hB.size, _, e0, World.ownsRow_nil _ _ _ _, by simp [Value.ownBlock]⟩, fun _ => ⟨_, e0⟩, hB.alloc hB.size _⟩
  have HP := Lib.hid P0
  clear hd P0
  go_loopw [22] (fun v22 wr => ∃ (i : Nat) (bs : List UInt8), i ≤ l.length ∧ v22 = .int .i64 (i : Int) ∧ Aside0 (bs.length ≤ 4 * i) ∧ Aside0 (PutW w w1.heap.size wr bs) ∧ Aside0 ((puts (l.drop i) (m.drop i)).map (bs ++ ·) = puts l m)) (fun v22 _ => l.length - (intOf v22).toNat)
  case atStart => exact ⟨0, [], by omega, rfl, ⟨by simp⟩, ⟨HP.out⟩, ⟨by simp⟩⟩
  case round =>
    obtain ⟨i, bs, hi, rfl, HBL, HW, HT⟩ := hrel
    by_cases hlt : i < l.length
    · have q1 : (i : Int) < (l.length : Int) := by omega
      have q0 : 0 ≤ (i : Int) := by omega
      have d1 : decide ((i : Int) < (l.length : Int)) = true := decide_eq_true q1
      obtain ⟨x, hx⟩ : ∃ x, x = rd l (i : Int) := ⟨_, rfl⟩
      obtain ⟨v, hv⟩ : ∃ v, v = rd m (i : Int) := ⟨_, rfl⟩
      have hltm : i < m.length := by rw [HML.out]; exact hlt
      have hxl : l.drop i = x :: l.drop (i + 1) := by rw [List.drop_eq_getElem_cons hlt, hx]; unfold rd; simp [List.getD_eq_getElem?_getD, List.getElem?_eq_getElem hlt]
      have hvm : m.drop i = v :: m.drop (i + 1) := by rw [List.drop_eq_getElem_cons hltm, hv]; unfold rd; simp [List.getD_eq_getElem?_getD, List.getElem?_eq_getElem hltm]
      have hxs : isSize x = true := by
        have := List.all_eq_true.1 HSZ.out x (by have : x ∈ l.drop i := by rw [hxl]; simp
                                                 exact List.mem_of_mem_drop this)
        exact this
      obtain ⟨ad, e101, hcell0⟩ := Kd.at_int HR0.out (i : Int) q0 q1
      cases e101
      have HR1' : Kd.C (Kd.int .i64) w A1 m.length m := by rw [HML.out]; exact HR1.out
      obtain ⟨ae, e102, hcell20⟩ := Kd.at_int HR1' (i : Int) q0 (by rw [HML.out]; exact q1)
      cases e102
      rw [← hx, Int.toNat_natCast] at hcell0
      rw [← hv, Int.toNat_natCast] at hcell20
      have hcell := (HW.out.hB.cell (World.block_lt_of_cell? _ _ hcell0)).trans hcell0
      have hcell2 := (HW.out.hB.cell (World.block_lt_of_cell? _ _ hcell20)).trans hcell20
      have HCV := Lib.hid hcell20
      clear hcell0 hcell20
      have HXX := Lib.hid hxl
      have HVV := Lib.hid hvm
      have HXS := Lib.hid hxs
      clear hx hv hxl hvm hxs hltm HR1'
      replace q0 := eq_true q0
      replace q1 := eq_true q1
      go_wp2_with fail
      cases hf : fitsN v x with
      | false =>
        have HF := Lib.hid hf
        clear hf
        refine (bin_fits.calls v x false _ (by rw [bin_fits.f_eq v x HXS.out, HF.out])).mono ?_
        rintro e u1 ⟨rfl, hd⟩
        go_wp2
        go_ret2
        have hres : r = (⟨#[]⟩, 2) := by
          have h1 := HT.out
          rw [HXX.out, HVV.out] at h1
          simp only [puts] at h1
          rw [HF.out, if_neg Bool.false_ne_true] at h1
          rw [← HR.out]
          unfold putN
          rw [if_neg (by rintro (h | h); · rw [HSZ.out] at h; exact absurd h (by decide)
                         · exact h HML.out.symm), ← h1]
          rfl
        rw [hres]
        exact ⟨rfl, below_then HW.out.hB HW.out.hB.size hd.below⟩
      | true =>
        have HF := Lib.hid hf
        clear hf
        refine (bin_fits.calls v x true _ (by rw [bin_fits.f_eq v x HXS.out, HF.out])).mono ?_
        rintro e u1 ⟨rfl, hd⟩
        have HW1 := Lib.hid (HW.out.below hd.below)
        clear hd
        have hsz := of_decide_eq_true HXS.out
        obtain ⟨n, hn⟩ : ∃ n, n = x.natAbs := ⟨_, rfl⟩
        have hn4 : n ≤ 4 := by omega
        have HNX := Lib.hid hn
        have HVX := Lib.hid (show (puts (l.drop (i + 1)) (m.drop (i + 1))).map ((bs ++ bytesN v n) ++ ·) = puts l m by
          rw [← HT.out, HXX.out, HVV.out]
          simp only [puts]
          rw [HF.out, if_pos rfl, Option.map_map, hn]
          congr 1
          funext y
          simp)
        have : x = -4 ∨ x = -3 ∨ x = -2 ∨ x = -1 ∨ x = 1 ∨ x = 2 ∨ x = 3 ∨ x = 4 := by omega
        have hbl : bs.length ≤ 4 * i := HBL.out
        have HBL2 := Lib.hid hbl
        clear hsz HT HXX HVV HXS HF hn hbl HBL
        rcases this with rfl | rfl | rfl | rfl | rfl | rfl | rfl | rfl
        all_goals
          have hne := HNX.out
          go_wp2_with fail
          go_loopw [9] (fun v9 ws => ∃ (k : Nat) (dn : List UInt8), k ≤ n ∧ v9 = .int .i64 ((k : Int) - 1) ∧ Aside0 (dn ++ bytesN v k = bytesN v n) ∧ Aside0 (PutW w w1.heap.size ws (bs ++ dn))) (fun v9 _ => (intOf v9 + 1).toNat)
          case atStart => exact ⟨n, [], Nat.le_refl _, by rw [hne]; rfl, ⟨rfl⟩, ⟨by rw [List.append_nil]; exact HW1.out⟩⟩
          case round =>
            obtain ⟨k, dn, hk, rfl, HD, HV⟩ := hrel
            have hk5 : k = 0 ∨ k = 1 ∨ k = 2 ∨ k = 3 ∨ k = 4 := by omega
            have c2 := (HV.out.hB.cell (World.block_lt_of_cell? _ _ HCV.out)).trans HCV.out
            have hwi : wrap64 ((i : Int) + 1) = (i : Int) + 1 := by have := HL.out; unfold wrap64; omega
            have HWI := Lib.hid hwi
            have HLE := Lib.hid (show (Lib.byteCells (bs ++ dn)).length + 1 ≤ 140737488355328 by
              have h1 := congrArg List.length HD.out
              rw [List.length_append, bytesN_length, bytesN_length] at h1
              have h2 := HBL2.out
              have h3 := HL.out
              rw [Lib.byteCells_length, List.length_append]; omega)
            clear hwi
            rcases hk5 with rfl | rfl | rfl | rfl | rfl
            · have hdn : dn = bytesN v n := by have := HD.out; simpa [bytesN] using this
              subst hdn
              go_wp2
              exact ⟨⟨i + 1, bs ++ bytesN v n, by omega, by rw [HWI.out]; rfl, ⟨by have := HBL2.out; rw [List.length_append, bytesN_length]; omega⟩, ⟨HV.out⟩, ⟨HVX.out⟩⟩, by rw [HWI.out]; exact less_left hlt⟩
            all_goals
              first | (exact absurd hk (by rw [hne]; decide)) | skip
            all_goals
              go_wp2_with fail
              refine (writeByte_calls w.heap.size w1.heap.size (Lib.byteCells (bs ++ dn)) _ _ HV.out.b HLE.out HV.out.hB.size).mono ?_
              rintro e u2 ⟨rfl, hb, hB⟩
              first
              | (have HV2 := Lib.hid (HV.out.wrote (byteOf v 0) (by rw [byteOf_nat]; simpa using hb) hB); have HD2 := Lib.hid (show (dn ++ [byteOf v 0]) ++ bytesN v 0 = bytesN v n by rw [← HD.out]; simp [bytesN]))
              | (have HV2 := Lib.hid (HV.out.wrote (byteOf v 1) (by rw [byteOf_nat]; simpa using hb) hB); have HD2 := Lib.hid (show (dn ++ [byteOf v 1]) ++ bytesN v 1 = bytesN v n by rw [← HD.out]; simp [bytesN]))
              | (have HV2 := Lib.hid (HV.out.wrote (byteOf v 2) (by rw [byteOf_nat]; simpa using hb) hB); have HD2 := Lib.hid (show (dn ++ [byteOf v 2]) ++ bytesN v 2 = bytesN v n by rw [← HD.out]; simp [bytesN]))
              | (have HV2 := Lib.hid (HV.out.wrote (byteOf v 3) (by rw [byteOf_nat]; simpa using hb) hB); have HD2 := Lib.hid (show (dn ++ [byteOf v 3]) ++ bytesN v 3 = bytesN v n by rw [← HD.out]; simp [bytesN]))
              clear hb hB
              go_wp2
              exact ⟨⟨_, _, by omega, rfl, ⟨HD2.out⟩, ⟨by have := HV2.out; rw [List.append_assoc] at this; exact this⟩⟩, by decide⟩
    · have hie : i = l.length := by omega
      have d1 : decide ((i : Int) < (l.length : Int)) = false := decide_eq_false (by omega)
      have hres : r = (⟨bs.toArray⟩, 0) := by
        have h1 := HT.out
        rw [hie, List.drop_length] at h1
        simp only [puts, Option.map_some, List.append_nil] at h1
        rw [← HR.out]
        unfold putN
        rw [if_neg (by rintro (h | h); · rw [HSZ.out] at h; exact absurd h (by decide)
                       · exact h HML.out.symm), ← h1]
      have HRES := Lib.hid hres
      clear hie hres HT HBL
      go_wp2_with fail
      cases bs with
      | nil =>
        obtain ⟨p, hp⟩ := HW.out.e rfl
        refine (string_nil w.heap.size w1.heap.size p _ hp).mono ?_
        rintro e u1 ⟨rfl, hb⟩
        have HB := Lib.hid (HW.out.hB.trans hb)
        clear hb hp
        go_wp2
        go_ret2
        rw [HRES.out]
        exact ⟨rfl, HB.out⟩
      | cons y ys =>
        refine (string_calls w.heap.size w1.heap.size (y :: ys) _ HW.out.b (by simp)).mono ?_
        rintro e u1 ⟨rfl, hb⟩
        have HB := Lib.hid (HW.out.hB.trans hb)
        clear hb
        go_wp2
        go_ret2
        rw [HRES.out]
        exact ⟨rfl, HB.out⟩
theorem put_size (A0 A1 : Option Addr) (c0 c1 : Nat) (l m : List Int) (w : World) (hr0 : Kd.C (Kd.int .i64) w A0 l.length l) (hc0 : l.length ≤ c0) (hl : l.length < 17592186044416) (hsz : areSizes l = false) :
    Calls Try.prog 23 #[.slice A0 l.length c0, .slice A1 m.length c1] w fun e w' => e = .returned (.tuple #[.string ⟨#[]⟩, .int .i64 1]) ∧ Below w.heap.size w w' := by
  have HL := Lib.hid hl
  have HSZ := Lib.hid hsz
  have HR0 := Lib.hid hr0
  have HC0 := Lib.hid hc0
  clear hl hsz hr0 hc0
  go_enter Try.func23, Try.ntmps23
  go_wp2_with fail
  refine (bin_right.calls (l.length + 1) A0 c0 l false _ HR0.out HC0.out (by rw [bin_right.f_eq l (by have := HL.out; omega), HSZ.out])).mono ?_
  rintro e w1 ⟨rfl, hd⟩
  have HB := Lib.hid hd.below
  clear hd
  go_wp2
  go_ret2
  exact ⟨rfl, HB.out⟩
theorem put_lens (A0 A1 : Option Addr) (c0 c1 : Nat) (l m : List Int) (w : World) (hr0 : Kd.C (Kd.int .i64) w A0 l.length l) (hc0 : l.length ≤ c0) (hl : l.length < 17592186044416) (hsz : areSizes l = true) (hne : l.length ≠ m.length) :
    Calls Try.prog 23 #[.slice A0 l.length c0, .slice A1 m.length c1] w fun e w' => e = .returned (.tuple #[.string ⟨#[]⟩, .int .i64 1]) ∧ Below w.heap.size w w' := by
  have HL := Lib.hid hl
  have HSZ := Lib.hid hsz
  have HR0 := Lib.hid hr0
  have HC0 := Lib.hid hc0
  have b1 : ((l.length : Int) != (m.length : Int)) = true := bne_iff_ne.mpr (by omega)
  have b2 : (l.length != m.length) = true := by simpa using hne
  have b3 : (l.length == m.length) = false := by simpa using hne
  clear hl hsz hr0 hc0 hne
  go_enter Try.func23, Try.ntmps23
  go_wp2_with fail
  refine (bin_right.calls (l.length + 1) A0 c0 l true _ HR0.out HC0.out (by rw [bin_right.f_eq l (by have := HL.out; omega), HSZ.out])).mono ?_
  rintro e w1 ⟨rfl, hd⟩
  have HB := Lib.hid hd.below
  clear hd
  go_wp2
  go_ret2
  exact ⟨rfl, HB.out⟩
def bin_Put.f (l0 l1 : List Int) : Option (ByteArray × Int) := if l0.length < 17592186044416 then some (putN l0 l1) else none
theorem bin_Put.calls (A0 : Option Addr) (c0 : Nat) (l0 : List Int) (A1 : Option Addr) (c1 : Nat) (l1 : List Int) (r1 : ByteArray) (r2 : Int) (w : World) (hr0 : Kd.C (Kd.int .i64) w A0 l0.length l0) (hc0 : l0.length ≤ c0) (hr1 : Kd.C (Kd.int .i64) w A1 l1.length l1) (hc1 : l1.length ≤ c1) (h : bin_Put.f l0 l1 = some (r1, r2)) :
    Calls Try.prog 23 #[.slice A0 l0.length c0, .slice A1 l1.length c1] w fun e w' => e = .returned (.tuple #[.string r1, .int .i64 r2]) ∧ Below w.heap.size w w' := by
  unfold bin_Put.f at h
  by_cases hl : l0.length < 17592186044416
  case neg => rw [if_neg hl] at h; exact absurd h (by simp)
  rw [if_pos hl] at h
  have hg := Option.some.inj h
  cases hs : areSizes l0 with
  | false =>
    unfold putN at hg
    rw [if_pos (.inl hs)] at hg
    obtain ⟨rfl, rfl⟩ := Prod.mk.inj hg
    exact put_size A0 A1 c0 c1 l0 l1 w hr0 hc0 hl hs
  | true =>
    by_cases hn : l0.length = l1.length
    · have e : (#[.slice A0 l0.length c0, .slice A1 l1.length c1] : Array Value) = #[.slice A0 l0.length c0, .slice A1 l0.length c1] := by rw [hn]
      rw [e]
      exact put_walk A0 A1 c0 c1 l0 l1 w hr0 hc0 (by rw [hn]; exact hr1) (by rw [hn]; exact hc1) hl hs (r1, r2) hg
    · unfold putN at hg
      rw [if_pos (.inr hn)] at hg
      obtain ⟨rfl, rfl⟩ := Prod.mk.inj hg
      exact put_lens A0 A1 c0 c1 l0 l1 w hr0 hc0 hl hs hn
end Go.Proofs.Ytjmliafplgjkhaa.P
end
section
namespace Go.Proofs.Ytjmliafplgjkhaa.P
open Go.RowKit Go.Proofs.YtjmliafplgjkhaaW.PrintWords Go.Proofs.YtjmliafplgjkhaaW.PrintLast Go.Proofs.YtjmliafplgjkhaaW.PrintMore
attribute [local go_sem] max2_int min2_int max_two min_two max_three min_three max_four min_four
set_option linter.unusedVariables false
set_option linter.unusedSimpArgs false
attribute [local go_sem high] eqA30
def glyf_Is.f (a0_0 : Bool) (a0_1 : Int) (a0_2 : Int) (a0_3 : Int) (a0_4 : Int) : Option (Bool) := if a0_0 = true then ((glyf_fields.f).bind fun t108 => ((bin_Put.f t108 (([a0_1, a0_2, a0_3, a0_4] : List Int))).bind fun bt114 => (if bt114.2 = 0 then (if a0_1 ≤ a0_3 then (some (decide (a0_2 ≤ a0_4))) else (some false)) else (some false)))) else (some (!a0_0 && (a0_1 == 0 && (a0_2 == 0 && (a0_3 == 0 && (a0_4 == 0))))))
def glyf_Is.T3 : Bool × List (List Nat × List Nat) := (true, [([], []), ([], []), ([1], [1]), ([], []), ([3], [3]), ([], []), ([5], [5]), ([], []), ([7], [7]), ([2, 4, 6, 8], [2, 4, 6, 8]), ([0, 9, 0], [0, 9]), ([10], [10]), ([11], [11]), ([11], [11]), ([12, 10, 0, 1, 2, 3, 4, 5, 6, 7, 8, 9, 10, 11, 12], [12]), ([13, 14, 0, 1, 2, 3, 4, 5, 6, 7, 8, 9, 10, 11, 12, 13, 14], [13])])
def glyf_Is.B3 : List Nat := [0, 0, 2, 0, 8, 0, 32, 0, 128, 510, 1023, 2047, 4095, 4095, 8191, 32767]
theorem glyf_Is.tab3 : rtab .any (opsOf Try.f11 3) = glyf_Is.T3 := by kernel_rfl
theorem glyf_Is.bits3 : waitsOk glyf_Is.T3.2 glyf_Is.B3 = true := by kernel_rfl
set_option maxHeartbeats 8000000 in
set_option maxRecDepth 100000 in
theorem glyf_Is.calls (a0_0 : Bool) (a0_1 : Int) (a0_2 : Int) (a0_3 : Int) (a0_4 : Int) (r : Bool) (w : World) (h : glyf_Is.f a0_0 a0_1 a0_2 a0_3 a0_4 = some r) :
    Calls Try.prog 11 #[.agg #[.bool a0_0, .int .i64 a0_1, .int .i64 a0_2, .int .i64 a0_3, .int .i64 a0_4]] w fun e w' => e = .returned (.bool r) ∧ Below w.heap.size w w' := by
  have hu30 := Try.underlying30
  have HB := Aside0.mk (Below.refl w.heap.size w)
  have H : (if a0_0 = true then ((glyf_fields.f).bind fun t108 => ((bin_Put.f t108 (([a0_1, a0_2, a0_3, a0_4] : List Int))).bind fun bt114 => (if bt114.2 = 0 then (if a0_1 ≤ a0_3 then (some (decide (a0_2 ≤ a0_4))) else (some false)) else (some false)))) else (some (!a0_0 && (a0_1 == 0 && (a0_2 == 0 && (a0_3 == 0 && (a0_4 == 0))))))) = some r := h
  clear h
  by_cases c2 : a0_0 = true
  · subst c2
    have H1 : ((glyf_fields.f).bind fun t108 => ((bin_Put.f t108 (([a0_1, a0_2, a0_3, a0_4] : List Int))).bind fun bt114 => (if bt114.2 = 0 then (if a0_1 ≤ a0_3 then (some (decide (a0_2 ≤ a0_4))) else (some false)) else (some false)))) = some r := by rw [if_pos rfl] at H; exact H
    clear H
    have H := H1
    clear H1
    replace H := Option.bind_eq_some_iff.mp H
    obtain ⟨t108, A30, H⟩ := H
    replace H : ((bin_Put.f t108 (([a0_1, a0_2, a0_3, a0_4] : List Int))).bind fun bt114 => (if bt114.2 = 0 then (if a0_1 ≤ a0_3 then (some (decide (a0_2 ≤ a0_4))) else (some false)) else (some false))) = some r := H
    have A3 := Aside0.mk A30
    clear A30
    obtain ⟨y111, hy111⟩ : ∃ y_ : List Int, y_ = (([a0_1, a0_2, a0_3, a0_4] : List Int)) := ⟨_, rfl⟩
    replace H : ((bin_Put.f t108 y111).bind fun bt114 => (if bt114.2 = 0 then (if a0_1 ≤ a0_3 then (some (decide (a0_2 ≤ a0_4))) else (some false)) else (some false))) = some r := by first | (rw [hy111]; with_reducible exact H) | (have H2_ := (Option.bind_some _ _).symm.trans H; rw [hy111]; with_reducible exact H2_) | (have H2_ := (Option.bind_some _ _).symm.trans H; with_reducible exact H2_) | with_reducible exact H | (rw [hy111]; exact H) | exact H
    have Ny111 := Aside0.mk hy111
    clear hy111
    replace H := Option.bind_eq_some_iff.mp H
    obtain ⟨⟨t114, t115⟩, A40, H⟩ := H
    replace H : (if t115 = 0 then (if a0_1 ≤ a0_3 then (some (decide (a0_2 ≤ a0_4))) else (some false)) else (some false)) = some r := H
    have A4 := Aside0.mk A40
    clear A40
    by_cases c5 : t115 = 0
    · rw [if_pos c5] at H
      have c5b0 : (t115 == 0) = true := beq_iff_eq.mpr c5
      have c5b1 : (t115 != 0) = false := bne_eq_false_iff_eq.mpr c5
      clear c5
      by_cases c6 : a0_1 ≤ a0_3
      · rw [if_pos c6] at H
        have c6b0 : decide (a0_1 ≤ a0_3) = true := decide_eq_true c6
        clear c6
        obtain rfl := Option.some.inj H
        go_enter Try.func11, Try.ntmps11
        try go_wp2_with (first | ((with_reducible refine gate_dst (N := 1) rfl ?_); refine box_event ?hg (N := 1) ?hd (cs := #[.bool true, .int .i64 a0_1, .int .i64 a0_2, .int .i64 a0_3, .int .i64 a0_4]) (t := 30) ?hr ?_; (case hd => rfl); (case hg => rfl); (case hr => first | (go_simp; done) | (go_simp; rfl)); intro gb107 hg w7 hbox hb; have n0_ := Aside0.mk (below_step (by repeat (first | (with_reducible first | exact HB.out | apply below_alloc | apply pw_below_drewN | apply below_drew1) | exact HB.out)) hb); have n1_ := Aside0.mk (hbox); have n2_ := Aside0.mk ((by rw [hg]; exact (below_size (by repeat (first | (with_reducible first | exact HB.out | apply below_alloc | apply pw_below_drewN | apply below_drew1) | exact HB.out))) : w.heap.size ≤ gb107)); have n3_ := Aside0.mk ((by rw [hg]; exact (below_size (by repeat (first | (with_reducible first | exact HB.out | apply below_alloc | apply pw_below_drewN | apply below_drew1) | exact HB.out))) : w.heap.size ≤ gb107)); clear HB; have HB := n0_; have BK107 := n1_; have GW107 := n2_; have GE107 := n3_; clear n0_ n1_ n2_ n3_; clear hb hbox hg; have hcz8_0 : w7.cell? ⟨gb107, 0, none⟩ = some (.bool true) := (blk_cell BK107.out 0).trans rfl; have hcz8_1 : w7.cell? ⟨gb107, 1, none⟩ = some (.int .i64 a0_1) := (blk_cell BK107.out 1).trans rfl; have hcz8_2 : w7.cell? ⟨gb107, 2, none⟩ = some (.int .i64 a0_2) := (blk_cell BK107.out 2).trans rfl; have hcz8_3 : w7.cell? ⟨gb107, 3, none⟩ = some (.int .i64 a0_3) := (blk_cell BK107.out 3).trans rfl; have hcz8_4 : w7.cell? ⟨gb107, 4, none⟩ = some (.int .i64 a0_4) := (blk_cell BK107.out 4).trans rfl; have hfz8_0 := blk_frozen BK107.out 0; have hfz8_1 := blk_frozen BK107.out 1; have hfz8_2 := blk_frozen BK107.out 2; have hfz8_3 := blk_frozen BK107.out 3; have hfz8_4 := blk_frozen BK107.out 4))
        have n0_ := Aside0.mk (blk_drew BK107.out)
        have n1_ := Aside0.mk (below_drew1 HB.out)
        clear BK107
        clear HB
        have BK107 := n0_
        have HB := n1_
        clear n0_ n1_
        refine start_ (n := 16) (S := fun w' => True) (ds := []) #[false, false, false, false, false, false, false, false, false, false, false, false, false, false, false, false] (by kernel_rfl) rfl rfl trivial (fun hHeld => ?_); refine with_tabW glyf_Is.tab3 glyf_Is.bits3 (fun HT_ HW_ => ?_)
        generalize w7.drew = w9 at BK107 HB hHeld ⊢
        refine pure_ (i := 1) (N := some 13) (v := ?_) (a' := ?_) #[false, true, false, false, false, false, false, false, false, false, false, false, false, false, false, false] rfl rfl (any_of HT_.out (by kernel_rfl)) (fun _ _ _ h => h) (Or.inl ⟨by rfl, ?_⟩) ?_ ?_
        rotate_left
        · intro w'
          go_simp
          with_reducible rfl
        rotate_left
        · simp only [Act.put, List.setIfInBounds_toArray, List.set_cons_zero, List.set_cons_succ, i64_w, i32_w]
          rfl
        refine pure_ (i := 3) (N := some 15) (v := ?_) (a' := ?_) #[false, true, false, true, false, false, false, false, false, false, false, false, false, false, false, false] rfl rfl (any_of HT_.out (by kernel_rfl)) (fun _ _ _ h => h) (Or.inl ⟨by rfl, ?_⟩) ?_ ?_
        rotate_left
        · intro w'
          go_simp
          with_reducible rfl
        rotate_left
        · simp only [Act.put, List.setIfInBounds_toArray, List.set_cons_zero, List.set_cons_succ, i64_w, i32_w]
          rfl
        refine pure_ (i := 5) (N := some 17) (v := ?_) (a' := ?_) #[false, true, false, true, false, true, false, false, false, false, false, false, false, false, false, false] rfl rfl (any_of HT_.out (by kernel_rfl)) (fun _ _ _ h => h) (Or.inl ⟨by rfl, ?_⟩) ?_ ?_
        rotate_left
        · intro w'
          go_simp
          with_reducible rfl
        rotate_left
        · simp only [Act.put, List.setIfInBounds_toArray, List.set_cons_zero, List.set_cons_succ, i64_w, i32_w]
          rfl
        refine pure_ (i := 7) (N := some 19) (v := ?_) (a' := ?_) #[false, true, false, true, false, true, false, true, false, false, false, false, false, false, false, false] rfl rfl (any_of HT_.out (by kernel_rfl)) (fun _ _ _ h => h) (Or.inl ⟨by rfl, ?_⟩) ?_ ?_
        rotate_left
        · intro w'
          go_simp
          with_reducible rfl
        rotate_left
        · simp only [Act.put, List.setIfInBounds_toArray, List.set_cons_zero, List.set_cons_succ, i64_w, i32_w]
          rfl
        refine inv_at [0, 2, 4, 6, 8, 9, 10, 11, 12, 13, 14, 15] (fun a0_ b a w' => ∃ (v109 : Value) (v112 : Value), a = putSel a0_ b [(0, 12, v109), (2, 14, .int .i64 a0_1), (4, 16, .int .i64 a0_2), (6, 18, .int .i64 a0_3), (8, 20, .int .i64 a0_4), (9, 21, v112), (10, 22, .tuple #[.string t114, .int .i64 t115]), (11, 11, .tuple #[.string t114, .int .i64 t115]), (12, 23, .string t114), (13, 24, .int .i64 t115), (14, 3, .string t114), (15, 4, .int .i64 t115)] ∧ (w'.heap[gb107]? = some (.cells #[.bool true, .int .i64 a0_1, .int .i64 a0_2, .int .i64 a0_3, .int .i64 a0_4] 30 (0, 0))) ∧ (Below w.heap.size w w') ∧ (b 0 = true → Kd.R (Kd.int .i64) 3 w' w.heap.size (fun _ => True) v109 t108) ∧ (b 9 = true → Kd.R (Kd.int .i64) 3 w' w.heap.size (fun _ => True) v112 y111)) HT_.out HW_.out (by kernel_rfl) (by kernel_rfl) ?_ ?_ ?_
        · exact ⟨.bool false, .bool false, by simp only [putSel, Bool.false_eq_true, if_false], BK107.out, HB.out, fun h_ => absurd h_ (by decide), fun h_ => absurd h_ (by decide)⟩
        · skip
          clear BK107 HB
          refine steps_cons ?_ ?_
          · rintro b a w' ⟨v109, v112, ha, Q_BK107, Q_HB, Q_HO110, Q_HO113⟩ hb_ hon hoff
            refine ⟨_, rfl, fun K hK => ?_⟩
            replace ha := Aside0.mk ha
            have BK107 := Aside0.mk Q_BK107
            have HB := Aside0.mk Q_HB
            refine goes_ Try.func24 (by kernel_rfl) rfl #[] (by rfl) rfl rfl (by first | (simp only [List.map_toArray, List.map_cons, List.map_nil, Act.eval, Array.getD_eq_getD_getElem?, Option.getD_some]; done) | (simp only [List.map_toArray, List.map_cons, List.map_nil, Act.eval, Array.getD_eq_getD_getElem?, Option.getD_some]; rfl)) ?_
            with_reducible refine (glyf_fields.calls  t108 _ A3.out).mono ?_
            rintro e w10 ⟨v109, rfl, ho0, hb⟩
            refine ⟨_, rfl, ?_⟩
            have n0_ := Aside0.mk (Kd.R_lower ho0 (below_size (by repeat (first | (with_reducible first | exact HB.out | apply below_alloc | apply pw_below_drewN | apply below_drew1 | refine below_set ?_ GE107.out) | exact HB.out))))
            have n1_ := Aside0.mk (blk_below (g := gb107) (o := .cells #[.bool true, .int .i64 a0_1, .int .i64 a0_2, .int .i64 a0_3, .int .i64 a0_4] 30 (0, 0)) (by (with_reducible repeat (first | refine blk_drewN ?_ _ | refine blk_drew ?_ | refine blk_alloc ?_ _)); exact BK107.out) hb)
            have n2_ := Aside0.mk (below_step (by repeat (first | (with_reducible first | exact HB.out | apply below_alloc | apply pw_below_drewN | apply below_drew1 | refine below_set ?_ GE107.out) | exact HB.out)) hb)
            have z_HO113 := fun (h0_ : b 9 = true) => (show Kd.R (Kd.int .i64) 3 w10 w.heap.size (fun _ => True) v112 y111 from by first | exact (Kd.R_elder' (by (with_reducible repeat (first | apply Kd.R_alloc | apply Kd.R_drewN | apply Kd.R_drew)); exact (Q_HO113 h0_)) (Kd.R_base ho0) hb) | exact Kd.R_mono (Kd.R_elder' (by (with_reducible repeat (first | apply Kd.R_alloc | apply Kd.R_drewN | apply Kd.R_drew)); exact (Q_HO113 h0_)) (Kd.R_base ho0) hb) (fun _ h_ => by first | trivial | exact h_ | exact h_.1))
            clear BK107
            clear HB
            have HO110 := n0_
            have BK107 := n1_
            have HB := n2_
            clear n0_ n1_ n2_
            (try clear hb)
            (try clear hb2)
            (try clear hk)
            (try clear hi)
            (try clear ho0)
            refine hK.out _ _ ⟨v109, v112, (by rw [ha.out]; exact putSel_upk 0 hb_ rfl rfl rfl), (by (with_reducible repeat (first | refine blk_drewN ?_ _ | refine blk_drew ?_ | refine blk_alloc ?_ _)); exact BK107.out), (by repeat (first | (with_reducible first | exact HB.out | apply below_alloc | apply pw_below_drewN | apply below_drew1 | refine below_set ?_ GE107.out) | exact HB.out)), fun _ => (by (with_reducible repeat (first | apply Kd.R_alloc | apply Kd.R_drewN | apply Kd.R_drew)); exact HO110.out), z_HO113⟩
          refine steps_cons ?_ ?_
          · rintro b a w' ⟨v109, v112, ha, Q_BK107, Q_HB, Q_HO110, Q_HO113⟩ hb_ hon hoff
            refine ⟨_, rfl, fun K hK => ?_⟩
            have e13 : a.tmps[13]? = some (.pointer (some ⟨gb107, 1, none⟩)) := by rw [ha]; exact (putSel_off rfl).trans rfl
            replace ha := Aside0.mk ha
            have BK107 := Aside0.mk Q_BK107
            have HB := Aside0.mk Q_HB
            have hc0_ : w'.cell? ⟨gb107, 0, none⟩ = some (.bool true) := (blk_cell BK107.out 0).trans rfl
            have hc1_ : w'.cell? ⟨gb107, 1, none⟩ = some (.int .i64 a0_1) := (blk_cell BK107.out 1).trans rfl
            have hc2_ : w'.cell? ⟨gb107, 2, none⟩ = some (.int .i64 a0_2) := (blk_cell BK107.out 2).trans rfl
            have hc3_ : w'.cell? ⟨gb107, 3, none⟩ = some (.int .i64 a0_3) := (blk_cell BK107.out 3).trans rfl
            have hc4_ : w'.cell? ⟨gb107, 4, none⟩ = some (.int .i64 a0_4) := (blk_cell BK107.out 4).trans rfl
            refine value_ (w1 := w') (v := .int .i64 a0_1) (by rfl) rfl ?_ ?_
            · go_simp
              (try simp only [i64_w])
              try rfl
            refine hK.out _ _ ⟨v109, v112, (by rw [ha.out]; exact putSel_upk 1 hb_ rfl rfl rfl), Q_BK107, Q_HB, Q_HO110, fun h0_ => absurd ((hoff 9 (by kernel_rfl)).symm.trans h0_) (by decide)⟩
          refine steps_cons ?_ ?_
          · rintro b a w' ⟨v109, v112, ha, Q_BK107, Q_HB, Q_HO110, Q_HO113⟩ hb_ hon hoff
            refine ⟨_, rfl, fun K hK => ?_⟩
            have e15 : a.tmps[15]? = some (.pointer (some ⟨gb107, 2, none⟩)) := by rw [ha]; exact (putSel_off rfl).trans rfl
            replace ha := Aside0.mk ha
            have BK107 := Aside0.mk Q_BK107
            have HB := Aside0.mk Q_HB
            have hc0_ : w'.cell? ⟨gb107, 0, none⟩ = some (.bool true) := (blk_cell BK107.out 0).trans rfl
            have hc1_ : w'.cell? ⟨gb107, 1, none⟩ = some (.int .i64 a0_1) := (blk_cell BK107.out 1).trans rfl
            have hc2_ : w'.cell? ⟨gb107, 2, none⟩ = some (.int .i64 a0_2) := (blk_cell BK107.out 2).trans rfl
            have hc3_ : w'.cell? ⟨gb107, 3, none⟩ = some (.int .i64 a0_3) := (blk_cell BK107.out 3).trans rfl
            have hc4_ : w'.cell? ⟨gb107, 4, none⟩ = some (.int .i64 a0_4) := (blk_cell BK107.out 4).trans rfl
            refine value_ (w1 := w') (v := .int .i64 a0_2) (by rfl) rfl ?_ ?_
            · go_simp
              (try simp only [i64_w])
              try rfl
            refine hK.out _ _ ⟨v109, v112, (by rw [ha.out]; exact putSel_upk 2 hb_ rfl rfl rfl), Q_BK107, Q_HB, Q_HO110, fun h0_ => absurd ((hoff 9 (by kernel_rfl)).symm.trans h0_) (by decide)⟩
          refine steps_cons ?_ ?_
          · rintro b a w' ⟨v109, v112, ha, Q_BK107, Q_HB, Q_HO110, Q_HO113⟩ hb_ hon hoff
            refine ⟨_, rfl, fun K hK => ?_⟩
            have e17 : a.tmps[17]? = some (.pointer (some ⟨gb107, 3, none⟩)) := by rw [ha]; exact (putSel_off rfl).trans rfl
            replace ha := Aside0.mk ha
            have BK107 := Aside0.mk Q_BK107
            have HB := Aside0.mk Q_HB
            have hc0_ : w'.cell? ⟨gb107, 0, none⟩ = some (.bool true) := (blk_cell BK107.out 0).trans rfl
            have hc1_ : w'.cell? ⟨gb107, 1, none⟩ = some (.int .i64 a0_1) := (blk_cell BK107.out 1).trans rfl
            have hc2_ : w'.cell? ⟨gb107, 2, none⟩ = some (.int .i64 a0_2) := (blk_cell BK107.out 2).trans rfl
            have hc3_ : w'.cell? ⟨gb107, 3, none⟩ = some (.int .i64 a0_3) := (blk_cell BK107.out 3).trans rfl
            have hc4_ : w'.cell? ⟨gb107, 4, none⟩ = some (.int .i64 a0_4) := (blk_cell BK107.out 4).trans rfl
            refine value_ (w1 := w') (v := .int .i64 a0_3) (by rfl) rfl ?_ ?_
            · go_simp
              (try simp only [i64_w])
              try rfl
            refine hK.out _ _ ⟨v109, v112, (by rw [ha.out]; exact putSel_upk 3 hb_ rfl rfl rfl), Q_BK107, Q_HB, Q_HO110, fun h0_ => absurd ((hoff 9 (by kernel_rfl)).symm.trans h0_) (by decide)⟩
          refine steps_cons ?_ ?_
          · rintro b a w' ⟨v109, v112, ha, Q_BK107, Q_HB, Q_HO110, Q_HO113⟩ hb_ hon hoff
            refine ⟨_, rfl, fun K hK => ?_⟩
            have e19 : a.tmps[19]? = some (.pointer (some ⟨gb107, 4, none⟩)) := by rw [ha]; exact (putSel_off rfl).trans rfl
            replace ha := Aside0.mk ha
            have BK107 := Aside0.mk Q_BK107
            have HB := Aside0.mk Q_HB
            have hc0_ : w'.cell? ⟨gb107, 0, none⟩ = some (.bool true) := (blk_cell BK107.out 0).trans rfl
            have hc1_ : w'.cell? ⟨gb107, 1, none⟩ = some (.int .i64 a0_1) := (blk_cell BK107.out 1).trans rfl
            have hc2_ : w'.cell? ⟨gb107, 2, none⟩ = some (.int .i64 a0_2) := (blk_cell BK107.out 2).trans rfl
            have hc3_ : w'.cell? ⟨gb107, 3, none⟩ = some (.int .i64 a0_3) := (blk_cell BK107.out 3).trans rfl
            have hc4_ : w'.cell? ⟨gb107, 4, none⟩ = some (.int .i64 a0_4) := (blk_cell BK107.out 4).trans rfl
            refine value_ (w1 := w') (v := .int .i64 a0_4) (by rfl) rfl ?_ ?_
            · go_simp
              (try simp only [i64_w])
              try rfl
            refine hK.out _ _ ⟨v109, v112, (by rw [ha.out]; exact putSel_upk 4 hb_ rfl rfl rfl), Q_BK107, Q_HB, Q_HO110, fun h0_ => absurd ((hoff 9 (by kernel_rfl)).symm.trans h0_) (by decide)⟩
          refine steps_cons ?_ ?_
          · rintro b a w' ⟨v109, v112, ha, Q_BK107, Q_HB, Q_HO110, Q_HO113⟩ hb_ hon hoff
            refine ⟨_, rfl, fun K hK => ?_⟩
            have e14 : a.tmps[14]? = some (.int .i64 a0_1) := by rw [ha]; exact putSel_on (e := (2, 14, .int .i64 a0_1)) 1 rfl rfl (hon 2 (by kernel_rfl)) rfl
            have e16 : a.tmps[16]? = some (.int .i64 a0_2) := by rw [ha]; exact putSel_on (e := (4, 16, .int .i64 a0_2)) 2 rfl rfl (hon 4 (by kernel_rfl)) rfl
            have e18 : a.tmps[18]? = some (.int .i64 a0_3) := by rw [ha]; exact putSel_on (e := (6, 18, .int .i64 a0_3)) 3 rfl rfl (hon 6 (by kernel_rfl)) rfl
            have e20 : a.tmps[20]? = some (.int .i64 a0_4) := by rw [ha]; exact putSel_on (e := (8, 20, .int .i64 a0_4)) 4 rfl rfl (hon 8 (by kernel_rfl)) rfl
            replace ha := Aside0.mk ha
            have BK107 := Aside0.mk Q_BK107
            have HB := Aside0.mk Q_HB
            refine Kd.R_lit_step (Kd.int .i64) _ 3 ?hg (N := 21) ?hd (xs := ([a0_1, a0_2, a0_3, a0_4] : List Int)) (inner := [.int .i64 a0_1, .int .i64 a0_2, .int .i64 a0_3, .int .i64 a0_4]) (ok := fun _ => True) (okp := fun _ => True) ?hr ?hp (fun _ hk => hk) trivial (Below.refl _ _) (Nat.le_refl _) (by simp) ?_; (case hd => rfl); (case hg => rfl); (case hr => first | (go_simp; done) | (go_simp; rfl)); (case hp => exact (Reps.one (show Kd.M (Kd.int .i64) _ _ _ a0_1 [.int .i64 a0_1] from rfl) (Reps.one (show Kd.M (Kd.int .i64) _ _ _ a0_2 [.int .i64 a0_2] from rfl) (Reps.one (show Kd.M (Kd.int .i64) _ _ _ a0_3 [.int .i64 a0_3] from rfl) (Reps.one (show Kd.M (Kd.int .i64) _ _ _ a0_4 [.int .i64 a0_4] from rfl) (Reps.none _ _))))))
            intro v112 w10 ho11 hb hg_ hnew_
            clear hg_ hnew_
            (first | rw [← Ny111.out] at ho11 | (simp only [Int.reduceToNat] at ho11; rw [← Ny111.out] at ho11))
            have n0_ := Aside0.mk (Kd.R_lower ho11 (below_size (by repeat (first | (with_reducible first | exact HB.out | apply below_alloc | apply pw_below_drewN | apply below_drew1 | refine below_set ?_ GE107.out) | exact HB.out))))
            have n1_ := Aside0.mk (blk_below (g := gb107) (o := .cells #[.bool true, .int .i64 a0_1, .int .i64 a0_2, .int .i64 a0_3, .int .i64 a0_4] 30 (0, 0)) (by (with_reducible repeat (first | refine blk_drewN ?_ _ | refine blk_drew ?_ | refine blk_alloc ?_ _)); exact BK107.out) hb)
            have n2_ := Aside0.mk (below_step (by repeat (first | (with_reducible first | exact HB.out | apply below_alloc | apply pw_below_drewN | apply below_drew1 | refine below_set ?_ GE107.out) | exact HB.out)) hb)
            have z_HO110 := fun (h0_ : b 0 = true) => (show Kd.R (Kd.int .i64) 3 w10 w.heap.size (fun _ => True) v109 t108 from by first | exact (Kd.R_elder' (by (with_reducible repeat (first | apply Kd.R_alloc | apply Kd.R_drewN | apply Kd.R_drew)); exact (Q_HO110 h0_)) (Kd.R_base ho11) hb) | exact Kd.R_mono (Kd.R_elder' (by (with_reducible repeat (first | apply Kd.R_alloc | apply Kd.R_drewN | apply Kd.R_drew)); exact (Q_HO110 h0_)) (Kd.R_base ho11) hb) (fun _ h_ => by first | trivial | exact h_ | exact h_.1))
            clear BK107
            clear HB
            have HO113 := n0_
            have BK107 := n1_
            have HB := n2_
            clear n0_ n1_ n2_
            clear hb ho11
            refine hK.out _ _ ⟨v109, v112, (by rw [ha.out]; exact putSel_upk 5 hb_ rfl rfl rfl), (by (with_reducible repeat (first | refine blk_drewN ?_ _ | refine blk_drew ?_ | refine blk_alloc ?_ _)); exact BK107.out), (by repeat (first | (with_reducible first | exact HB.out | apply below_alloc | apply pw_below_drewN | apply below_drew1 | refine below_set ?_ GE107.out) | exact HB.out)), z_HO110, fun _ => (by (with_reducible repeat (first | apply Kd.R_alloc | apply Kd.R_drewN | apply Kd.R_drew)); exact HO113.out)⟩
          refine steps_cons ?_ ?_
          · rintro b a w' ⟨v109, v112, ha, Q_BK107, Q_HB, Q_HO110, Q_HO113⟩ hb_ hon hoff
            refine ⟨_, rfl, fun K hK => ?_⟩
            have e12 : a.tmps[12]? = some (v109) := by rw [ha]; exact putSel_on (e := (0, 12, v109)) 0 rfl rfl (hon 0 (by kernel_rfl)) rfl
            have e21 : a.tmps[21]? = some (v112) := by rw [ha]; exact putSel_on (e := (9, 21, v112)) 5 rfl rfl (hon 9 (by kernel_rfl)) rfl
            replace ha := Aside0.mk ha
            have BK107 := Aside0.mk Q_BK107
            have HB := Aside0.mk Q_HB
            have HO110 := Aside0.mk (Q_HO110 (hon 0 (by kernel_rfl)))
            have HO113 := Aside0.mk (Q_HO113 (hon 9 (by kernel_rfl)))
            obtain ⟨Ao14, co14, eo14⟩ := Kd.R_slice HO110.out
            (first | subst eo14 | (injection eo14 with f1_ f2_ f3_; have f4_ := f1_.symm; have f5_ := f3_.symm; clear f1_ f2_ f3_; subst f4_; subst f5_))
            obtain ⟨Ao15, co15, eo15⟩ := Kd.R_slice HO113.out
            (first | subst eo15 | (injection eo15 with f1_ f2_ f3_; have f4_ := f1_.symm; have f5_ := f3_.symm; clear f1_ f2_ f3_; subst f4_; subst f5_))
            refine goes_ Try.func23 (by kernel_rfl) rfl #[.slice Ao14 t108.length co14, .slice Ao15 y111.length co15] (by rfl) rfl rfl (by first | (simp only [List.map_toArray, List.map_cons, List.map_nil, Act.eval, Array.getD_eq_getD_getElem?, Option.getD_some, e12, e21]; done) | (simp only [List.map_toArray, List.map_cons, List.map_nil, Act.eval, Array.getD_eq_getD_getElem?, Option.getD_some, e12, e21]; rfl)) ?_
            with_reducible refine (bin_Put.calls _ _ t108 _ _ y111 t114 t115 _ ?side1 ?side2 ?side3 ?side4 A4.out).mono ?_
            (case side1 => repeat (first | exact (Kd.R_reads' HO110.out).2.2 | (with_reducible refine Kd.C_alloc ?_ _) | (with_reducible refine Kd.C_drewN ?_ _) | (with_reducible refine Kd.C_drew ?_)))
            (case side2 => exact (Kd.R_reads' HO110.out).2.1)
            (case side3 => repeat (first | exact (Kd.R_reads' HO113.out).2.2 | (with_reducible refine Kd.C_alloc ?_ _) | (with_reducible refine Kd.C_drewN ?_ _) | (with_reducible refine Kd.C_drew ?_)))
            (case side4 => exact (Kd.R_reads' HO113.out).2.1)
            rintro e w16 ⟨rfl, hb⟩
            refine ⟨_, rfl, ?_⟩
            have n0_ := Aside0.mk (Kd.R_below (by (with_reducible repeat (first | apply Kd.R_alloc | apply Kd.R_drewN | apply Kd.R_drew)); exact HO110.out) hb)
            have n1_ := Aside0.mk (Kd.R_below (by (with_reducible repeat (first | apply Kd.R_alloc | apply Kd.R_drewN | apply Kd.R_drew)); exact HO113.out) hb)
            have n2_ := Aside0.mk (blk_below (g := gb107) (o := .cells #[.bool true, .int .i64 a0_1, .int .i64 a0_2, .int .i64 a0_3, .int .i64 a0_4] 30 (0, 0)) (by (with_reducible repeat (first | refine blk_drewN ?_ _ | refine blk_drew ?_ | refine blk_alloc ?_ _)); exact BK107.out) hb)
            have n3_ := Aside0.mk (below_step (by repeat (first | (with_reducible first | exact HB.out | apply below_alloc | apply pw_below_drewN | apply below_drew1 | refine below_set ?_ GE107.out) | exact HB.out)) hb)
            clear HO110
            clear HO113
            clear BK107
            clear HB
            have HO110 := n0_
            have HO113 := n1_
            have BK107 := n2_
            have HB := n3_
            clear n0_ n1_ n2_ n3_
            (try clear hb)
            (try clear hb2)
            (try clear hk)
            (try clear hi)
            refine hK.out _ _ ⟨.slice Ao14 t108.length co14, .slice Ao15 y111.length co15, (by rw [ha.out]; exact putSel_upk 6 hb_ rfl rfl rfl), (by (with_reducible repeat (first | refine blk_drewN ?_ _ | refine blk_drew ?_ | refine blk_alloc ?_ _)); exact BK107.out), (by repeat (first | (with_reducible first | exact HB.out | apply below_alloc | apply pw_below_drewN | apply below_drew1 | refine below_set ?_ GE107.out) | exact HB.out)), fun _ => (by (with_reducible repeat (first | apply Kd.R_alloc | apply Kd.R_drewN | apply Kd.R_drew)); exact HO110.out), fun _ => (by (with_reducible repeat (first | apply Kd.R_alloc | apply Kd.R_drewN | apply Kd.R_drew)); exact HO113.out)⟩
          refine steps_cons ?_ ?_
          · rintro b a w' ⟨v109, v112, ha, Q_BK107, Q_HB, Q_HO110, Q_HO113⟩ hb_ hon hoff
            refine ⟨_, rfl, fun K hK => ?_⟩
            have e22 : a.tmps[22]? = some (.tuple #[.string t114, .int .i64 t115]) := by rw [ha]; exact putSel_on (e := (10, 22, .tuple #[.string t114, .int .i64 t115])) 6 rfl rfl (hon 10 (by kernel_rfl)) rfl
            replace ha := Aside0.mk ha
            have BK107 := Aside0.mk Q_BK107
            have HB := Aside0.mk Q_HB
            have HO110 := Aside0.mk (Q_HO110 (hon 0 (by kernel_rfl)))
            have HO113 := Aside0.mk (Q_HO113 (hon 9 (by kernel_rfl)))
            refine value_ (w1 := w') (v := .tuple #[.string t114, .int .i64 t115]) (by rfl) rfl ?_ ?_
            · go_simp
              (try simp only [i64_w])
              try rfl
            refine hK.out _ _ ⟨v109, v112, (by rw [ha.out]; exact putSel_upk 7 hb_ rfl rfl rfl), Q_BK107, Q_HB, Q_HO110, Q_HO113⟩
          refine steps_cons ?_ ?_
          · rintro b a w' ⟨v109, v112, ha, Q_BK107, Q_HB, Q_HO110, Q_HO113⟩ hb_ hon hoff
            refine ⟨_, rfl, fun K hK => ?_⟩
            have e11 : a.tmps[11]? = some (.tuple #[.string t114, .int .i64 t115]) := by rw [ha]; exact putSel_on (e := (11, 11, .tuple #[.string t114, .int .i64 t115])) 7 rfl rfl (hon 11 (by kernel_rfl)) rfl
            replace ha := Aside0.mk ha
            have BK107 := Aside0.mk Q_BK107
            have HB := Aside0.mk Q_HB
            have HO110 := Aside0.mk (Q_HO110 (hon 0 (by kernel_rfl)))
            have HO113 := Aside0.mk (Q_HO113 (hon 9 (by kernel_rfl)))
            refine value_ (w1 := w') (v := .string t114) (by rfl) rfl ?_ ?_
            · go_simp
              (try simp only [i64_w])
              try rfl
            refine hK.out _ _ ⟨v109, v112, (by rw [ha.out]; exact putSel_upk 8 hb_ rfl rfl rfl), Q_BK107, Q_HB, Q_HO110, Q_HO113⟩
          refine steps_cons ?_ ?_
          · rintro b a w' ⟨v109, v112, ha, Q_BK107, Q_HB, Q_HO110, Q_HO113⟩ hb_ hon hoff
            refine ⟨_, rfl, fun K hK => ?_⟩
            have e11 : a.tmps[11]? = some (.tuple #[.string t114, .int .i64 t115]) := by rw [ha]; exact putSel_on (e := (11, 11, .tuple #[.string t114, .int .i64 t115])) 7 rfl rfl (hon 11 (by kernel_rfl)) rfl
            replace ha := Aside0.mk ha
            have BK107 := Aside0.mk Q_BK107
            have HB := Aside0.mk Q_HB
            have HO110 := Aside0.mk (Q_HO110 (hon 0 (by kernel_rfl)))
            have HO113 := Aside0.mk (Q_HO113 (hon 9 (by kernel_rfl)))
            refine value_ (w1 := w') (v := .int .i64 t115) (by rfl) rfl ?_ ?_
            · go_simp
              (try simp only [i64_w])
              try rfl
            refine hK.out _ _ ⟨v109, v112, (by rw [ha.out]; exact putSel_upk 9 hb_ rfl rfl rfl), Q_BK107, Q_HB, Q_HO110, Q_HO113⟩
          refine steps_cons ?_ ?_
          · rintro b a w' ⟨v109, v112, ha, Q_BK107, Q_HB, Q_HO110, Q_HO113⟩ hb_ hon hoff
            refine ⟨_, rfl, fun K hK => ?_⟩
            have e23 : a.tmps[23]? = some (.string t114) := by rw [ha]; exact putSel_on (e := (12, 23, .string t114)) 8 rfl rfl (hon 12 (by kernel_rfl)) rfl
            replace ha := Aside0.mk ha
            have BK107 := Aside0.mk Q_BK107
            have HB := Aside0.mk Q_HB
            have HO110 := Aside0.mk (Q_HO110 (hon 0 (by kernel_rfl)))
            have HO113 := Aside0.mk (Q_HO113 (hon 9 (by kernel_rfl)))
            refine value_ (w1 := w') (v := .string t114) (by rfl) rfl ?_ ?_
            · go_simp
              (try simp only [i64_w])
              try rfl
            refine hK.out _ _ ⟨v109, v112, (by rw [ha.out]; exact putSel_upk 10 hb_ rfl rfl rfl), Q_BK107, Q_HB, Q_HO110, Q_HO113⟩
          refine steps_cons ?_ ?_
          · rintro b a w' ⟨v109, v112, ha, Q_BK107, Q_HB, Q_HO110, Q_HO113⟩ hb_ hon hoff
            refine ⟨_, rfl, fun K hK => ?_⟩
            have e24 : a.tmps[24]? = some (.int .i64 t115) := by rw [ha]; exact putSel_on (e := (13, 24, .int .i64 t115)) 9 rfl rfl (hon 13 (by kernel_rfl)) rfl
            replace ha := Aside0.mk ha
            have BK107 := Aside0.mk Q_BK107
            have HB := Aside0.mk Q_HB
            have HO110 := Aside0.mk (Q_HO110 (hon 0 (by kernel_rfl)))
            have HO113 := Aside0.mk (Q_HO113 (hon 9 (by kernel_rfl)))
            refine value_ (w1 := w') (v := .int .i64 t115) (by rfl) rfl ?_ ?_
            · go_simp
              (try simp only [i64_w])
              try rfl
            refine hK.out _ _ ⟨v109, v112, (by rw [ha.out]; exact putSel_upk 11 hb_ rfl rfl rfl), Q_BK107, Q_HB, Q_HO110, Q_HO113⟩
          exact steps_nil
        rintro b a w16 hall ⟨v109, v112, ha, Q_BK107, Q_HB, Q_HO110, Q_HO113⟩
        clear BK107 HB
        have hb0_ := hall 0 (by kernel_rfl)
        have hb2_ := hall 2 (by kernel_rfl)
        have hb4_ := hall 4 (by kernel_rfl)
        have hb6_ := hall 6 (by kernel_rfl)
        have hb8_ := hall 8 (by kernel_rfl)
        have hb9_ := hall 9 (by kernel_rfl)
        have hb10_ := hall 10 (by kernel_rfl)
        have hb11_ := hall 11 (by kernel_rfl)
        have hb12_ := hall 12 (by kernel_rfl)
        have hb13_ := hall 13 (by kernel_rfl)
        have hb14_ := hall 14 (by kernel_rfl)
        have hb15_ := hall 15 (by kernel_rfl)
        subst ha
        simp only [putSel, hb0_, hb2_, hb4_, hb6_, hb8_, hb9_, hb10_, hb11_, hb12_, hb13_, hb14_, hb15_, if_true, Act.put, List.setIfInBounds_toArray, List.set_cons_zero, List.set_cons_succ]
        have BK107 := Aside0.mk Q_BK107
        clear Q_BK107
        have HB := Aside0.mk Q_HB
        clear Q_HB
        have HO110 := Aside0.mk (Q_HO110 hb0_)
        clear Q_HO110
        have HO113 := Aside0.mk (Q_HO113 hb9_)
        clear Q_HO113
        clear hall hb0_ hb2_ hb4_ hb6_ hb8_ hb9_ hb10_ hb11_ hb12_ hb13_ hb14_ hb15_
        have hcz17_0 : w16.cell? ⟨gb107, 0, none⟩ = some (.bool true) := (blk_cell BK107.out 0).trans rfl
        have hcz17_1 : w16.cell? ⟨gb107, 1, none⟩ = some (.int .i64 a0_1) := (blk_cell BK107.out 1).trans rfl
        have hcz17_2 : w16.cell? ⟨gb107, 2, none⟩ = some (.int .i64 a0_2) := (blk_cell BK107.out 2).trans rfl
        have hcz17_3 : w16.cell? ⟨gb107, 3, none⟩ = some (.int .i64 a0_3) := (blk_cell BK107.out 3).trans rfl
        have hcz17_4 : w16.cell? ⟨gb107, 4, none⟩ = some (.int .i64 a0_4) := (blk_cell BK107.out 4).trans rfl
        have hfz17_0 := blk_frozen BK107.out 0
        have hfz17_1 := blk_frozen BK107.out 1
        have hfz17_2 := blk_frozen BK107.out 2
        have hfz17_3 := blk_frozen BK107.out 3
        have hfz17_4 := blk_frozen BK107.out 4
        try go_wp2
        go_ret
        exact ⟨by first | rfl | (simp [errW_none, errW_some] <;> rfl) | (simp [*, errW_none, errW_some] <;> rfl), by repeat (first | (with_reducible first | exact HB.out | apply below_alloc | apply pw_below_drewN | apply below_drew1 | refine below_set ?_ GE107.out) | exact HB.out)⟩
      · rw [if_neg c6] at H
        have c6b0 : decide (a0_1 ≤ a0_3) = false := decide_eq_false c6
        clear c6
        obtain rfl := Option.some.inj H
        go_enter Try.func11, Try.ntmps11
        try go_wp2_with (first | ((with_reducible refine gate_dst (N := 1) rfl ?_); refine box_event ?hg (N := 1) ?hd (cs := #[.bool true, .int .i64 a0_1, .int .i64 a0_2, .int .i64 a0_3, .int .i64 a0_4]) (t := 30) ?hr ?_; (case hd => rfl); (case hg => rfl); (case hr => first | (go_simp; done) | (go_simp; rfl)); intro gb107 hg w18 hbox hb; have n0_ := Aside0.mk (below_step (by repeat (first | (with_reducible first | exact HB.out | apply below_alloc | apply pw_below_drewN | apply below_drew1) | exact HB.out)) hb); have n1_ := Aside0.mk (hbox); have n2_ := Aside0.mk ((by rw [hg]; exact (below_size (by repeat (first | (with_reducible first | exact HB.out | apply below_alloc | apply pw_below_drewN | apply below_drew1) | exact HB.out))) : w.heap.size ≤ gb107)); have n3_ := Aside0.mk ((by rw [hg]; exact (below_size (by repeat (first | (with_reducible first | exact HB.out | apply below_alloc | apply pw_below_drewN | apply below_drew1) | exact HB.out))) : w.heap.size ≤ gb107)); clear HB; have HB := n0_; have BK107 := n1_; have GW107 := n2_; have GE107 := n3_; clear n0_ n1_ n2_ n3_; clear hb hbox hg; have hcz19_0 : w18.cell? ⟨gb107, 0, none⟩ = some (.bool true) := (blk_cell BK107.out 0).trans rfl; have hcz19_1 : w18.cell? ⟨gb107, 1, none⟩ = some (.int .i64 a0_1) := (blk_cell BK107.out 1).trans rfl; have hcz19_2 : w18.cell? ⟨gb107, 2, none⟩ = some (.int .i64 a0_2) := (blk_cell BK107.out 2).trans rfl; have hcz19_3 : w18.cell? ⟨gb107, 3, none⟩ = some (.int .i64 a0_3) := (blk_cell BK107.out 3).trans rfl; have hcz19_4 : w18.cell? ⟨gb107, 4, none⟩ = some (.int .i64 a0_4) := (blk_cell BK107.out 4).trans rfl; have hfz19_0 := blk_frozen BK107.out 0; have hfz19_1 := blk_frozen BK107.out 1; have hfz19_2 := blk_frozen BK107.out 2; have hfz19_3 := blk_frozen BK107.out 3; have hfz19_4 := blk_frozen BK107.out 4))
        have n0_ := Aside0.mk (blk_drew BK107.out)
        have n1_ := Aside0.mk (below_drew1 HB.out)
        clear BK107
        clear HB
        have BK107 := n0_
        have HB := n1_
        clear n0_ n1_
        refine start_ (n := 16) (S := fun w' => True) (ds := []) #[false, false, false, false, false, false, false, false, false, false, false, false, false, false, false, false] (by kernel_rfl) rfl rfl trivial (fun hHeld => ?_); refine with_tabW glyf_Is.tab3 glyf_Is.bits3 (fun HT_ HW_ => ?_)
        generalize w18.drew = w20 at BK107 HB hHeld ⊢
        refine pure_ (i := 1) (N := some 13) (v := ?_) (a' := ?_) #[false, true, false, false, false, false, false, false, false, false, false, false, false, false, false, false] rfl rfl (any_of HT_.out (by kernel_rfl)) (fun _ _ _ h => h) (Or.inl ⟨by rfl, ?_⟩) ?_ ?_
        rotate_left
        · intro w'
          go_simp
          with_reducible rfl
        rotate_left
        · simp only [Act.put, List.setIfInBounds_toArray, List.set_cons_zero, List.set_cons_succ, i64_w, i32_w]
          rfl
        refine pure_ (i := 3) (N := some 15) (v := ?_) (a' := ?_) #[false, true, false, true, false, false, false, false, false, false, false, false, false, false, false, false] rfl rfl (any_of HT_.out (by kernel_rfl)) (fun _ _ _ h => h) (Or.inl ⟨by rfl, ?_⟩) ?_ ?_
        rotate_left
        · intro w'
          go_simp
          with_reducible rfl
        rotate_left
        · simp only [Act.put, List.setIfInBounds_toArray, List.set_cons_zero, List.set_cons_succ, i64_w, i32_w]
          rfl
        refine pure_ (i := 5) (N := some 17) (v := ?_) (a' := ?_) #[false, true, false, true, false, true, false, false, false, false, false, false, false, false, false, false] rfl rfl (any_of HT_.out (by kernel_rfl)) (fun _ _ _ h => h) (Or.inl ⟨by rfl, ?_⟩) ?_ ?_
        rotate_left
        · intro w'
          go_simp
          with_reducible rfl
        rotate_left
        · simp only [Act.put, List.setIfInBounds_toArray, List.set_cons_zero, List.set_cons_succ, i64_w, i32_w]
          rfl
        refine pure_ (i := 7) (N := some 19) (v := ?_) (a' := ?_) #[false, true, false, true, false, true, false, true, false, false, false, false, false, false, false, false] rfl rfl (any_of HT_.out (by kernel_rfl)) (fun _ _ _ h => h) (Or.inl ⟨by rfl, ?_⟩) ?_ ?_
        rotate_left
        · intro w'
          go_simp
          with_reducible rfl
        rotate_left
        · simp only [Act.put, List.setIfInBounds_toArray, List.set_cons_zero, List.set_cons_succ, i64_w, i32_w]
          rfl
        refine inv_at [0, 2, 4, 6, 8, 9, 10, 11, 12, 13, 14, 15] (fun a0_ b a w' => ∃ (v109 : Value) (v112 : Value), a = putSel a0_ b [(0, 12, v109), (2, 14, .int .i64 a0_1), (4, 16, .int .i64 a0_2), (6, 18, .int .i64 a0_3), (8, 20, .int .i64 a0_4), (9, 21, v112), (10, 22, .tuple #[.string t114, .int .i64 t115]), (11, 11, .tuple #[.string t114, .int .i64 t115]), (12, 23, .string t114), (13, 24, .int .i64 t115), (14, 3, .string t114), (15, 4, .int .i64 t115)] ∧ (w'.heap[gb107]? = some (.cells #[.bool true, .int .i64 a0_1, .int .i64 a0_2, .int .i64 a0_3, .int .i64 a0_4] 30 (0, 0))) ∧ (Below w.heap.size w w') ∧ (b 0 = true → Kd.R (Kd.int .i64) 3 w' w.heap.size (fun _ => True) v109 t108) ∧ (b 9 = true → Kd.R (Kd.int .i64) 3 w' w.heap.size (fun _ => True) v112 y111)) HT_.out HW_.out (by kernel_rfl) (by kernel_rfl) ?_ ?_ ?_
        · exact ⟨.bool false, .bool false, by simp only [putSel, Bool.false_eq_true, if_false], BK107.out, HB.out, fun h_ => absurd h_ (by decide), fun h_ => absurd h_ (by decide)⟩
        · skip
          clear BK107 HB
          refine steps_cons ?_ ?_
          · rintro b a w' ⟨v109, v112, ha, Q_BK107, Q_HB, Q_HO110, Q_HO113⟩ hb_ hon hoff
            refine ⟨_, rfl, fun K hK => ?_⟩
            replace ha := Aside0.mk ha
            have BK107 := Aside0.mk Q_BK107
            have HB := Aside0.mk Q_HB
            refine goes_ Try.func24 (by kernel_rfl) rfl #[] (by rfl) rfl rfl (by first | (simp only [List.map_toArray, List.map_cons, List.map_nil, Act.eval, Array.getD_eq_getD_getElem?, Option.getD_some]; done) | (simp only [List.map_toArray, List.map_cons, List.map_nil, Act.eval, Array.getD_eq_getD_getElem?, Option.getD_some]; rfl)) ?_
            with_reducible refine (glyf_fields.calls  t108 _ A3.out).mono ?_
            rintro e w21 ⟨v109, rfl, ho0, hb⟩
            refine ⟨_, rfl, ?_⟩
            have n0_ := Aside0.mk (Kd.R_lower ho0 (below_size (by repeat (first | (with_reducible first | exact HB.out | apply below_alloc | apply pw_below_drewN | apply below_drew1 | refine below_set ?_ GE107.out) | exact HB.out))))
            have n1_ := Aside0.mk (blk_below (g := gb107) (o := .cells #[.bool true, .int .i64 a0_1, .int .i64 a0_2, .int .i64 a0_3, .int .i64 a0_4] 30 (0, 0)) (by (with_reducible repeat (first | refine blk_drewN ?_ _ | refine blk_drew ?_ | refine blk_alloc ?_ _)); exact BK107.out) hb)
            have n2_ := Aside0.mk (below_step (by repeat (first | (with_reducible first | exact HB.out | apply below_alloc | apply pw_below_drewN | apply below_drew1 | refine below_set ?_ GE107.out) | exact HB.out)) hb)
            have z_HO113 := fun (h0_ : b 9 = true) => (show Kd.R (Kd.int .i64) 3 w21 w.heap.size (fun _ => True) v112 y111 from by first | exact (Kd.R_elder' (by (with_reducible repeat (first | apply Kd.R_alloc | apply Kd.R_drewN | apply Kd.R_drew)); exact (Q_HO113 h0_)) (Kd.R_base ho0) hb) | exact Kd.R_mono (Kd.R_elder' (by (with_reducible repeat (first | apply Kd.R_alloc | apply Kd.R_drewN | apply Kd.R_drew)); exact (Q_HO113 h0_)) (Kd.R_base ho0) hb) (fun _ h_ => by first | trivial | exact h_ | exact h_.1))
            clear BK107
            clear HB
            have HO110 := n0_
            have BK107 := n1_
            have HB := n2_
            clear n0_ n1_ n2_
            (try clear hb)
            (try clear hb2)
            (try clear hk)
            (try clear hi)
            (try clear ho0)
            refine hK.out _ _ ⟨v109, v112, (by rw [ha.out]; exact putSel_upk 0 hb_ rfl rfl rfl), (by (with_reducible repeat (first | refine blk_drewN ?_ _ | refine blk_drew ?_ | refine blk_alloc ?_ _)); exact BK107.out), (by repeat (first | (with_reducible first | exact HB.out | apply below_alloc | apply pw_below_drewN | apply below_drew1 | refine below_set ?_ GE107.out) | exact HB.out)), fun _ => (by (with_reducible repeat (first | apply Kd.R_alloc | apply Kd.R_drewN | apply Kd.R_drew)); exact HO110.out), z_HO113⟩
          refine steps_cons ?_ ?_
          · rintro b a w' ⟨v109, v112, ha, Q_BK107, Q_HB, Q_HO110, Q_HO113⟩ hb_ hon hoff
            refine ⟨_, rfl, fun K hK => ?_⟩
            have e13 : a.tmps[13]? = some (.pointer (some ⟨gb107, 1, none⟩)) := by rw [ha]; exact (putSel_off rfl).trans rfl
            replace ha := Aside0.mk ha
            have BK107 := Aside0.mk Q_BK107
            have HB := Aside0.mk Q_HB
            have hc0_ : w'.cell? ⟨gb107, 0, none⟩ = some (.bool true) := (blk_cell BK107.out 0).trans rfl
            have hc1_ : w'.cell? ⟨gb107, 1, none⟩ = some (.int .i64 a0_1) := (blk_cell BK107.out 1).trans rfl
            have hc2_ : w'.cell? ⟨gb107, 2, none⟩ = some (.int .i64 a0_2) := (blk_cell BK107.out 2).trans rfl
            have hc3_ : w'.cell? ⟨gb107, 3, none⟩ = some (.int .i64 a0_3) := (blk_cell BK107.out 3).trans rfl
            have hc4_ : w'.cell? ⟨gb107, 4, none⟩ = some (.int .i64 a0_4) := (blk_cell BK107.out 4).trans rfl
            refine value_ (w1 := w') (v := .int .i64 a0_1) (by rfl) rfl ?_ ?_
            · go_simp
              (try simp only [i64_w])
              try rfl
            refine hK.out _ _ ⟨v109, v112, (by rw [ha.out]; exact putSel_upk 1 hb_ rfl rfl rfl), Q_BK107, Q_HB, Q_HO110, fun h0_ => absurd ((hoff 9 (by kernel_rfl)).symm.trans h0_) (by decide)⟩
          refine steps_cons ?_ ?_
          · rintro b a w' ⟨v109, v112, ha, Q_BK107, Q_HB, Q_HO110, Q_HO113⟩ hb_ hon hoff
            refine ⟨_, rfl, fun K hK => ?_⟩
            have e15 : a.tmps[15]? = some (.pointer (some ⟨gb107, 2, none⟩)) := by rw [ha]; exact (putSel_off rfl).trans rfl
            replace ha := Aside0.mk ha
            have BK107 := Aside0.mk Q_BK107
            have HB := Aside0.mk Q_HB
            have hc0_ : w'.cell? ⟨gb107, 0, none⟩ = some (.bool true) := (blk_cell BK107.out 0).trans rfl
            have hc1_ : w'.cell? ⟨gb107, 1, none⟩ = some (.int .i64 a0_1) := (blk_cell BK107.out 1).trans rfl
            have hc2_ : w'.cell? ⟨gb107, 2, none⟩ = some (.int .i64 a0_2) := (blk_cell BK107.out 2).trans rfl
            have hc3_ : w'.cell? ⟨gb107, 3, none⟩ = some (.int .i64 a0_3) := (blk_cell BK107.out 3).trans rfl
            have hc4_ : w'.cell? ⟨gb107, 4, none⟩ = some (.int .i64 a0_4) := (blk_cell BK107.out 4).trans rfl
            refine value_ (w1 := w') (v := .int .i64 a0_2) (by rfl) rfl ?_ ?_
            · go_simp
              (try simp only [i64_w])
              try rfl
            refine hK.out _ _ ⟨v109, v112, (by rw [ha.out]; exact putSel_upk 2 hb_ rfl rfl rfl), Q_BK107, Q_HB, Q_HO110, fun h0_ => absurd ((hoff 9 (by kernel_rfl)).symm.trans h0_) (by decide)⟩
          refine steps_cons ?_ ?_
          · rintro b a w' ⟨v109, v112, ha, Q_BK107, Q_HB, Q_HO110, Q_HO113⟩ hb_ hon hoff
            refine ⟨_, rfl, fun K hK => ?_⟩
            have e17 : a.tmps[17]? = some (.pointer (some ⟨gb107, 3, none⟩)) := by rw [ha]; exact (putSel_off rfl).trans rfl
            replace ha := Aside0.mk ha
            have BK107 := Aside0.mk Q_BK107
            have HB := Aside0.mk Q_HB
            have hc0_ : w'.cell? ⟨gb107, 0, none⟩ = some (.bool true) := (blk_cell BK107.out 0).trans rfl
            have hc1_ : w'.cell? ⟨gb107, 1, none⟩ = some (.int .i64 a0_1) := (blk_cell BK107.out 1).trans rfl
            have hc2_ : w'.cell? ⟨gb107, 2, none⟩ = some (.int .i64 a0_2) := (blk_cell BK107.out 2).trans rfl
            have hc3_ : w'.cell? ⟨gb107, 3, none⟩ = some (.int .i64 a0_3) := (blk_cell BK107.out 3).trans rfl
            have hc4_ : w'.cell? ⟨gb107, 4, none⟩ = some (.int .i64 a0_4) := (blk_cell BK107.out 4).trans rfl
            refine value_ (w1 := w') (v := .int .i64 a0_3) (by rfl) rfl ?_ ?_
            · go_simp
              (try simp only [i64_w])
              try rfl
            refine hK.out _ _ ⟨v109, v112, (by rw [ha.out]; exact putSel_upk 3 hb_ rfl rfl rfl), Q_BK107, Q_HB, Q_HO110, fun h0_ => absurd ((hoff 9 (by kernel_rfl)).symm.trans h0_) (by decide)⟩
          refine steps_cons ?_ ?_
          · rintro b a w' ⟨v109, v112, ha, Q_BK107, Q_HB, Q_HO110, Q_HO113⟩ hb_ hon hoff
            refine ⟨_, rfl, fun K hK => ?_⟩
            have e19 : a.tmps[19]? = some (.pointer (some ⟨gb107, 4, none⟩)) := by rw [ha]; exact (putSel_off rfl).trans rfl
            replace ha := Aside0.mk ha
            have BK107 := Aside0.mk Q_BK107
            have HB := Aside0.mk Q_HB
            have hc0_ : w'.cell? ⟨gb107, 0, none⟩ = some (.bool true) := (blk_cell BK107.out 0).trans rfl
            have hc1_ : w'.cell? ⟨gb107, 1, none⟩ = some (.int .i64 a0_1) := (blk_cell BK107.out 1).trans rfl
            have hc2_ : w'.cell? ⟨gb107, 2, none⟩ = some (.int .i64 a0_2) := (blk_cell BK107.out 2).trans rfl
            have hc3_ : w'.cell? ⟨gb107, 3, none⟩ = some (.int .i64 a0_3) := (blk_cell BK107.out 3).trans rfl
            have hc4_ : w'.cell? ⟨gb107, 4, none⟩ = some (.int .i64 a0_4) := (blk_cell BK107.out 4).trans rfl
            refine value_ (w1 := w') (v := .int .i64 a0_4) (by rfl) rfl ?_ ?_
            · go_simp
              (try simp only [i64_w])
              try rfl
            refine hK.out _ _ ⟨v109, v112, (by rw [ha.out]; exact putSel_upk 4 hb_ rfl rfl rfl), Q_BK107, Q_HB, Q_HO110, fun h0_ => absurd ((hoff 9 (by kernel_rfl)).symm.trans h0_) (by decide)⟩
          refine steps_cons ?_ ?_
          · rintro b a w' ⟨v109, v112, ha, Q_BK107, Q_HB, Q_HO110, Q_HO113⟩ hb_ hon hoff
            refine ⟨_, rfl, fun K hK => ?_⟩
            have e14 : a.tmps[14]? = some (.int .i64 a0_1) := by rw [ha]; exact putSel_on (e := (2, 14, .int .i64 a0_1)) 1 rfl rfl (hon 2 (by kernel_rfl)) rfl
            have e16 : a.tmps[16]? = some (.int .i64 a0_2) := by rw [ha]; exact putSel_on (e := (4, 16, .int .i64 a0_2)) 2 rfl rfl (hon 4 (by kernel_rfl)) rfl
            have e18 : a.tmps[18]? = some (.int .i64 a0_3) := by rw [ha]; exact putSel_on (e := (6, 18, .int .i64 a0_3)) 3 rfl rfl (hon 6 (by kernel_rfl)) rfl
            have e20 : a.tmps[20]? = some (.int .i64 a0_4) := by rw [ha]; exact putSel_on (e := (8, 20, .int .i64 a0_4)) 4 rfl rfl (hon 8 (by kernel_rfl)) rfl
            replace ha := Aside0.mk ha
            have BK107 := Aside0.mk Q_BK107
            have HB := Aside0.mk Q_HB
            refine Kd.R_lit_step (Kd.int .i64) _ 3 ?hg (N := 21) ?hd (xs := ([a0_1, a0_2, a0_3, a0_4] : List Int)) (inner := [.int .i64 a0_1, .int .i64 a0_2, .int .i64 a0_3, .int .i64 a0_4]) (ok := fun _ => True) (okp := fun _ => True) ?hr ?hp (fun _ hk => hk) trivial (Below.refl _ _) (Nat.le_refl _) (by simp) ?_; (case hd => rfl); (case hg => rfl); (case hr => first | (go_simp; done) | (go_simp; rfl)); (case hp => exact (Reps.one (show Kd.M (Kd.int .i64) _ _ _ a0_1 [.int .i64 a0_1] from rfl) (Reps.one (show Kd.M (Kd.int .i64) _ _ _ a0_2 [.int .i64 a0_2] from rfl) (Reps.one (show Kd.M (Kd.int .i64) _ _ _ a0_3 [.int .i64 a0_3] from rfl) (Reps.one (show Kd.M (Kd.int .i64) _ _ _ a0_4 [.int .i64 a0_4] from rfl) (Reps.none _ _))))))
            intro v112 w21 ho22 hb hg_ hnew_
            clear hg_ hnew_
            (first | rw [← Ny111.out] at ho22 | (simp only [Int.reduceToNat] at ho22; rw [← Ny111.out] at ho22))
            have n0_ := Aside0.mk (Kd.R_lower ho22 (below_size (by repeat (first | (with_reducible first | exact HB.out | apply below_alloc | apply pw_below_drewN | apply below_drew1 | refine below_set ?_ GE107.out) | exact HB.out))))
            have n1_ := Aside0.mk (blk_below (g := gb107) (o := .cells #[.bool true, .int .i64 a0_1, .int .i64 a0_2, .int .i64 a0_3, .int .i64 a0_4] 30 (0, 0)) (by (with_reducible repeat (first | refine blk_drewN ?_ _ | refine blk_drew ?_ | refine blk_alloc ?_ _)); exact BK107.out) hb)
            have n2_ := Aside0.mk (below_step (by repeat (first | (with_reducible first | exact HB.out | apply below_alloc | apply pw_below_drewN | apply below_drew1 | refine below_set ?_ GE107.out) | exact HB.out)) hb)
            have z_HO110 := fun (h0_ : b 0 = true) => (show Kd.R (Kd.int .i64) 3 w21 w.heap.size (fun _ => True) v109 t108 from by first | exact (Kd.R_elder' (by (with_reducible repeat (first | apply Kd.R_alloc | apply Kd.R_drewN | apply Kd.R_drew)); exact (Q_HO110 h0_)) (Kd.R_base ho22) hb) | exact Kd.R_mono (Kd.R_elder' (by (with_reducible repeat (first | apply Kd.R_alloc | apply Kd.R_drewN | apply Kd.R_drew)); exact (Q_HO110 h0_)) (Kd.R_base ho22) hb) (fun _ h_ => by first | trivial | exact h_ | exact h_.1))
            clear BK107
            clear HB
            have HO113 := n0_
            have BK107 := n1_
            have HB := n2_
            clear n0_ n1_ n2_
            clear hb ho22
            refine hK.out _ _ ⟨v109, v112, (by rw [ha.out]; exact putSel_upk 5 hb_ rfl rfl rfl), (by (with_reducible repeat (first | refine blk_drewN ?_ _ | refine blk_drew ?_ | refine blk_alloc ?_ _)); exact BK107.out), (by repeat (first | (with_reducible first | exact HB.out | apply below_alloc | apply pw_below_drewN | apply below_drew1 | refine below_set ?_ GE107.out) | exact HB.out)), z_HO110, fun _ => (by (with_reducible repeat (first | apply Kd.R_alloc | apply Kd.R_drewN | apply Kd.R_drew)); exact HO113.out)⟩
          refine steps_cons ?_ ?_
          · rintro b a w' ⟨v109, v112, ha, Q_BK107, Q_HB, Q_HO110, Q_HO113⟩ hb_ hon hoff
            refine ⟨_, rfl, fun K hK => ?_⟩
            have e12 : a.tmps[12]? = some (v109) := by rw [ha]; exact putSel_on (e := (0, 12, v109)) 0 rfl rfl (hon 0 (by kernel_rfl)) rfl
            have e21 : a.tmps[21]? = some (v112) := by rw [ha]; exact putSel_on (e := (9, 21, v112)) 5 rfl rfl (hon 9 (by kernel_rfl)) rfl
            replace ha := Aside0.mk ha
            have BK107 := Aside0.mk Q_BK107
            have HB := Aside0.mk Q_HB
            have HO110 := Aside0.mk (Q_HO110 (hon 0 (by kernel_rfl)))
            have HO113 := Aside0.mk (Q_HO113 (hon 9 (by kernel_rfl)))
            obtain ⟨Ao25, co25, eo25⟩ := Kd.R_slice HO110.out
            (first | subst eo25 | (injection eo25 with f1_ f2_ f3_; have f4_ := f1_.symm; have f5_ := f3_.symm; clear f1_ f2_ f3_; subst f4_; subst f5_))
            obtain ⟨Ao26, co26, eo26⟩ := Kd.R_slice HO113.out
            (first | subst eo26 | (injection eo26 with f1_ f2_ f3_; have f4_ := f1_.symm; have f5_ := f3_.symm; clear f1_ f2_ f3_; subst f4_; subst f5_))
            refine goes_ Try.func23 (by kernel_rfl) rfl #[.slice Ao25 t108.length co25, .slice Ao26 y111.length co26] (by rfl) rfl rfl (by first | (simp only [List.map_toArray, List.map_cons, List.map_nil, Act.eval, Array.getD_eq_getD_getElem?, Option.getD_some, e12, e21]; done) | (simp only [List.map_toArray, List.map_cons, List.map_nil, Act.eval, Array.getD_eq_getD_getElem?, Option.getD_some, e12, e21]; rfl)) ?_
            with_reducible refine (bin_Put.calls _ _ t108 _ _ y111 t114 t115 _ ?side1 ?side2 ?side3 ?side4 A4.out).mono ?_
            (case side1 => repeat (first | exact (Kd.R_reads' HO110.out).2.2 | (with_reducible refine Kd.C_alloc ?_ _) | (with_reducible refine Kd.C_drewN ?_ _) | (with_reducible refine Kd.C_drew ?_)))
            (case side2 => exact (Kd.R_reads' HO110.out).2.1)
            (case side3 => repeat (first | exact (Kd.R_reads' HO113.out).2.2 | (with_reducible refine Kd.C_alloc ?_ _) | (with_reducible refine Kd.C_drewN ?_ _) | (with_reducible refine Kd.C_drew ?_)))
            (case side4 => exact (Kd.R_reads' HO113.out).2.1)
            rintro e w27 ⟨rfl, hb⟩
            refine ⟨_, rfl, ?_⟩
            have n0_ := Aside0.mk (Kd.R_below (by (with_reducible repeat (first | apply Kd.R_alloc | apply Kd.R_drewN | apply Kd.R_drew)); exact HO110.out) hb)
            have n1_ := Aside0.mk (Kd.R_below (by (with_reducible repeat (first | apply Kd.R_alloc | apply Kd.R_drewN | apply Kd.R_drew)); exact HO113.out) hb)
            have n2_ := Aside0.mk (blk_below (g := gb107) (o := .cells #[.bool true, .int .i64 a0_1, .int .i64 a0_2, .int .i64 a0_3, .int .i64 a0_4] 30 (0, 0)) (by (with_reducible repeat (first | refine blk_drewN ?_ _ | refine blk_drew ?_ | refine blk_alloc ?_ _)); exact BK107.out) hb)
            have n3_ := Aside0.mk (below_step (by repeat (first | (with_reducible first | exact HB.out | apply below_alloc | apply pw_below_drewN | apply below_drew1 | refine below_set ?_ GE107.out) | exact HB.out)) hb)
            clear HO110
            clear HO113
            clear BK107
            clear HB
            have HO110 := n0_
            have HO113 := n1_
            have BK107 := n2_
            have HB := n3_
            clear n0_ n1_ n2_ n3_
            (try clear hb)
            (try clear hb2)
            (try clear hk)
            (try clear hi)
            refine hK.out _ _ ⟨.slice Ao25 t108.length co25, .slice Ao26 y111.length co26, (by rw [ha.out]; exact putSel_upk 6 hb_ rfl rfl rfl), (by (with_reducible repeat (first | refine blk_drewN ?_ _ | refine blk_drew ?_ | refine blk_alloc ?_ _)); exact BK107.out), (by repeat (first | (with_reducible first | exact HB.out | apply below_alloc | apply pw_below_drewN | apply below_drew1 | refine below_set ?_ GE107.out) | exact HB.out)), fun _ => (by (with_reducible repeat (first | apply Kd.R_alloc | apply Kd.R_drewN | apply Kd.R_drew)); exact HO110.out), fun _ => (by (with_reducible repeat (first | apply Kd.R_alloc | apply Kd.R_drewN | apply Kd.R_drew)); exact HO113.out)⟩
          refine steps_cons ?_ ?_
          · rintro b a w' ⟨v109, v112, ha, Q_BK107, Q_HB, Q_HO110, Q_HO113⟩ hb_ hon hoff
            refine ⟨_, rfl, fun K hK => ?_⟩
            have e22 : a.tmps[22]? = some (.tuple #[.string t114, .int .i64 t115]) := by rw [ha]; exact putSel_on (e := (10, 22, .tuple #[.string t114, .int .i64 t115])) 6 rfl rfl (hon 10 (by kernel_rfl)) rfl
            replace ha := Aside0.mk ha
            have BK107 := Aside0.mk Q_BK107
            have HB := Aside0.mk Q_HB
            have HO110 := Aside0.mk (Q_HO110 (hon 0 (by kernel_rfl)))
            have HO113 := Aside0.mk (Q_HO113 (hon 9 (by kernel_rfl)))
            refine value_ (w1 := w') (v := .tuple #[.string t114, .int .i64 t115]) (by rfl) rfl ?_ ?_
            · go_simp
              (try simp only [i64_w])
              try rfl
            refine hK.out _ _ ⟨v109, v112, (by rw [ha.out]; exact putSel_upk 7 hb_ rfl rfl rfl), Q_BK107, Q_HB, Q_HO110, Q_HO113⟩
          refine steps_cons ?_ ?_
          · rintro b a w' ⟨v109, v112, ha, Q_BK107, Q_HB, Q_HO110, Q_HO113⟩ hb_ hon hoff
            refine ⟨_, rfl, fun K hK => ?_⟩
            have e11 : a.tmps[11]? = some (.tuple #[.string t114, .int .i64 t115]) := by rw [ha]; exact putSel_on (e := (11, 11, .tuple #[.string t114, .int .i64 t115])) 7 rfl rfl (hon 11 (by kernel_rfl)) rfl
            replace ha := Aside0.mk ha
            have BK107 := Aside0.mk Q_BK107
            have HB := Aside0.mk Q_HB
            have HO110 := Aside0.mk (Q_HO110 (hon 0 (by kernel_rfl)))
            have HO113 := Aside0.mk (Q_HO113 (hon 9 (by kernel_rfl)))
            refine value_ (w1 := w') (v := .string t114) (by rfl) rfl ?_ ?_
            · go_simp
              (try simp only [i64_w])
              try rfl
            refine hK.out _ _ ⟨v109, v112, (by rw [ha.out]; exact putSel_upk 8 hb_ rfl rfl rfl), Q_BK107, Q_HB, Q_HO110, Q_HO113⟩
          refine steps_cons ?_ ?_
          · rintro b a w' ⟨v109, v112, ha, Q_BK107, Q_HB, Q_HO110, Q_HO113⟩ hb_ hon hoff
            refine ⟨_, rfl, fun K hK => ?_⟩
            have e11 : a.tmps[11]? = some (.tuple #[.string t114, .int .i64 t115]) := by rw [ha]; exact putSel_on (e := (11, 11, .tuple #[.string t114, .int .i64 t115])) 7 rfl rfl (hon 11 (by kernel_rfl)) rfl
            replace ha := Aside0.mk ha
            have BK107 := Aside0.mk Q_BK107
            have HB := Aside0.mk Q_HB
            have HO110 := Aside0.mk (Q_HO110 (hon 0 (by kernel_rfl)))
            have HO113 := Aside0.mk (Q_HO113 (hon 9 (by kernel_rfl)))
            refine value_ (w1 := w') (v := .int .i64 t115) (by rfl) rfl ?_ ?_
            · go_simp
              (try simp only [i64_w])
              try rfl
            refine hK.out _ _ ⟨v109, v112, (by rw [ha.out]; exact putSel_upk 9 hb_ rfl rfl rfl), Q_BK107, Q_HB, Q_HO110, Q_HO113⟩
          refine steps_cons ?_ ?_
          · rintro b a w' ⟨v109, v112, ha, Q_BK107, Q_HB, Q_HO110, Q_HO113⟩ hb_ hon hoff
            refine ⟨_, rfl, fun K hK => ?_⟩
            have e23 : a.tmps[23]? = some (.string t114) := by rw [ha]; exact putSel_on (e := (12, 23, .string t114)) 8 rfl rfl (hon 12 (by kernel_rfl)) rfl
            replace ha := Aside0.mk ha
            have BK107 := Aside0.mk Q_BK107
            have HB := Aside0.mk Q_HB
            have HO110 := Aside0.mk (Q_HO110 (hon 0 (by kernel_rfl)))
            have HO113 := Aside0.mk (Q_HO113 (hon 9 (by kernel_rfl)))
            refine value_ (w1 := w') (v := .string t114) (by rfl) rfl ?_ ?_
            · go_simp
              (try simp only [i64_w])
              try rfl
            refine hK.out _ _ ⟨v109, v112, (by rw [ha.out]; exact putSel_upk 10 hb_ rfl rfl rfl), Q_BK107, Q_HB, Q_HO110, Q_HO113⟩
          refine steps_cons ?_ ?_
          · rintro b a w' ⟨v109, v112, ha, Q_BK107, Q_HB, Q_HO110, Q_HO113⟩ hb_ hon hoff
            refine ⟨_, rfl, fun K hK => ?_⟩
            have e24 : a.tmps[24]? = some (.int .i64 t115) := by rw [ha]; exact putSel_on (e := (13, 24, .int .i64 t115)) 9 rfl rfl (hon 13 (by kernel_rfl)) rfl
            replace ha := Aside0.mk ha
            have BK107 := Aside0.mk Q_BK107
            have HB := Aside0.mk Q_HB
            have HO110 := Aside0.mk (Q_HO110 (hon 0 (by kernel_rfl)))
            have HO113 := Aside0.mk (Q_HO113 (hon 9 (by kernel_rfl)))
            refine value_ (w1 := w') (v := .int .i64 t115) (by rfl) rfl ?_ ?_
            · go_simp
              (try simp only [i64_w])
              try rfl
            refine hK.out _ _ ⟨v109, v112, (by rw [ha.out]; exact putSel_upk 11 hb_ rfl rfl rfl), Q_BK107, Q_HB, Q_HO110, Q_HO113⟩
          exact steps_nil
        rintro b a w27 hall ⟨v109, v112, ha, Q_BK107, Q_HB, Q_HO110, Q_HO113⟩
        clear BK107 HB
        have hb0_ := hall 0 (by kernel_rfl)
        have hb2_ := hall 2 (by kernel_rfl)
        have hb4_ := hall 4 (by kernel_rfl)
        have hb6_ := hall 6 (by kernel_rfl)
        have hb8_ := hall 8 (by kernel_rfl)
        have hb9_ := hall 9 (by kernel_rfl)
        have hb10_ := hall 10 (by kernel_rfl)
        have hb11_ := hall 11 (by kernel_rfl)
        have hb12_ := hall 12 (by kernel_rfl)
        have hb13_ := hall 13 (by kernel_rfl)
        have hb14_ := hall 14 (by kernel_rfl)
        have hb15_ := hall 15 (by kernel_rfl)
        subst ha
        simp only [putSel, hb0_, hb2_, hb4_, hb6_, hb8_, hb9_, hb10_, hb11_, hb12_, hb13_, hb14_, hb15_, if_true, Act.put, List.setIfInBounds_toArray, List.set_cons_zero, List.set_cons_succ]
        have BK107 := Aside0.mk Q_BK107
        clear Q_BK107
        have HB := Aside0.mk Q_HB
        clear Q_HB
        have HO110 := Aside0.mk (Q_HO110 hb0_)
        clear Q_HO110
        have HO113 := Aside0.mk (Q_HO113 hb9_)
        clear Q_HO113
        clear hall hb0_ hb2_ hb4_ hb6_ hb8_ hb9_ hb10_ hb11_ hb12_ hb13_ hb14_ hb15_
        have hcz28_0 : w27.cell? ⟨gb107, 0, none⟩ = some (.bool true) := (blk_cell BK107.out 0).trans rfl
        have hcz28_1 : w27.cell? ⟨gb107, 1, none⟩ = some (.int .i64 a0_1) := (blk_cell BK107.out 1).trans rfl
        have hcz28_2 : w27.cell? ⟨gb107, 2, none⟩ = some (.int .i64 a0_2) := (blk_cell BK107.out 2).trans rfl
        have hcz28_3 : w27.cell? ⟨gb107, 3, none⟩ = some (.int .i64 a0_3) := (blk_cell BK107.out 3).trans rfl
        have hcz28_4 : w27.cell? ⟨gb107, 4, none⟩ = some (.int .i64 a0_4) := (blk_cell BK107.out 4).trans rfl
        have hfz28_0 := blk_frozen BK107.out 0
        have hfz28_1 := blk_frozen BK107.out 1
        have hfz28_2 := blk_frozen BK107.out 2
        have hfz28_3 := blk_frozen BK107.out 3
        have hfz28_4 := blk_frozen BK107.out 4
        try go_wp2
        go_ret
        exact ⟨by first | rfl | (simp [errW_none, errW_some] <;> rfl) | (simp [*, errW_none, errW_some] <;> rfl), by repeat (first | (with_reducible first | exact HB.out | apply below_alloc | apply pw_below_drewN | apply below_drew1 | refine below_set ?_ GE107.out) | exact HB.out)⟩
    · rw [if_neg c5] at H
      have c5b0 : (t115 == 0) = false := beq_eq_false_iff_ne.mpr c5
      have c5b1 : (t115 != 0) = true := bne_iff_ne.mpr c5
      obtain rfl := Option.some.inj H
      go_enter Try.func11, Try.ntmps11
      try go_wp2_with (first | ((with_reducible refine gate_dst (N := 1) rfl ?_); refine box_event ?hg (N := 1) ?hd (cs := #[.bool true, .int .i64 a0_1, .int .i64 a0_2, .int .i64 a0_3, .int .i64 a0_4]) (t := 30) ?hr ?_; (case hd => rfl); (case hg => rfl); (case hr => first | (go_simp; done) | (go_simp; rfl)); intro gb107 hg w29 hbox hb; have n0_ := Aside0.mk (below_step (by repeat (first | (with_reducible first | exact HB.out | apply below_alloc | apply pw_below_drewN | apply below_drew1) | exact HB.out)) hb); have n1_ := Aside0.mk (hbox); have n2_ := Aside0.mk ((by rw [hg]; exact (below_size (by repeat (first | (with_reducible first | exact HB.out | apply below_alloc | apply pw_below_drewN | apply below_drew1) | exact HB.out))) : w.heap.size ≤ gb107)); have n3_ := Aside0.mk ((by rw [hg]; exact (below_size (by repeat (first | (with_reducible first | exact HB.out | apply below_alloc | apply pw_below_drewN | apply below_drew1) | exact HB.out))) : w.heap.size ≤ gb107)); clear HB; have HB := n0_; have BK107 := n1_; have GW107 := n2_; have GE107 := n3_; clear n0_ n1_ n2_ n3_; clear hb hbox hg; have hcz30_0 : w29.cell? ⟨gb107, 0, none⟩ = some (.bool true) := (blk_cell BK107.out 0).trans rfl; have hcz30_1 : w29.cell? ⟨gb107, 1, none⟩ = some (.int .i64 a0_1) := (blk_cell BK107.out 1).trans rfl; have hcz30_2 : w29.cell? ⟨gb107, 2, none⟩ = some (.int .i64 a0_2) := (blk_cell BK107.out 2).trans rfl; have hcz30_3 : w29.cell? ⟨gb107, 3, none⟩ = some (.int .i64 a0_3) := (blk_cell BK107.out 3).trans rfl; have hcz30_4 : w29.cell? ⟨gb107, 4, none⟩ = some (.int .i64 a0_4) := (blk_cell BK107.out 4).trans rfl; have hfz30_0 := blk_frozen BK107.out 0; have hfz30_1 := blk_frozen BK107.out 1; have hfz30_2 := blk_frozen BK107.out 2; have hfz30_3 := blk_frozen BK107.out 3; have hfz30_4 := blk_frozen BK107.out 4))
      have n0_ := Aside0.mk (blk_drew BK107.out)
      have n1_ := Aside0.mk (below_drew1 HB.out)
      clear BK107
      clear HB
      have BK107 := n0_
      have HB := n1_
      clear n0_ n1_
      refine start_ (n := 16) (S := fun w' => True) (ds := []) #[false, false, false, false, false, false, false, false, false, false, false, false, false, false, false, false] (by kernel_rfl) rfl rfl trivial (fun hHeld => ?_); refine with_tabW glyf_Is.tab3 glyf_Is.bits3 (fun HT_ HW_ => ?_)
      generalize w29.drew = w31 at BK107 HB hHeld ⊢
      refine pure_ (i := 1) (N := some 13) (v := ?_) (a' := ?_) #[false, true, false, false, false, false, false, false, false, false, false, false, false, false, false, false] rfl rfl (any_of HT_.out (by kernel_rfl)) (fun _ _ _ h => h) (Or.inl ⟨by rfl, ?_⟩) ?_ ?_
      rotate_left
      · intro w'
        go_simp
        with_reducible rfl
      rotate_left
      · simp only [Act.put, List.setIfInBounds_toArray, List.set_cons_zero, List.set_cons_succ, i64_w, i32_w]
        rfl
      refine pure_ (i := 3) (N := some 15) (v := ?_) (a' := ?_) #[false, true, false, true, false, false, false, false, false, false, false, false, false, false, false, false] rfl rfl (any_of HT_.out (by kernel_rfl)) (fun _ _ _ h => h) (Or.inl ⟨by rfl, ?_⟩) ?_ ?_
      rotate_left
      · intro w'
        go_simp
        with_reducible rfl
      rotate_left
      · simp only [Act.put, List.setIfInBounds_toArray, List.set_cons_zero, List.set_cons_succ, i64_w, i32_w]
        rfl
      refine pure_ (i := 5) (N := some 17) (v := ?_) (a' := ?_) #[false, true, false, true, false, true, false, false, false, false, false, false, false, false, false, false] rfl rfl (any_of HT_.out (by kernel_rfl)) (fun _ _ _ h => h) (Or.inl ⟨by rfl, ?_⟩) ?_ ?_
      rotate_left
      · intro w'
        go_simp
        with_reducible rfl
      rotate_left
      · simp only [Act.put, List.setIfInBounds_toArray, List.set_cons_zero, List.set_cons_succ, i64_w, i32_w]
        rfl
      refine pure_ (i := 7) (N := some 19) (v := ?_) (a' := ?_) #[false, true, false, true, false, true, false, true, false, false, false, false, false, false, false, false] rfl rfl (any_of HT_.out (by kernel_rfl)) (fun _ _ _ h => h) (Or.inl ⟨by rfl, ?_⟩) ?_ ?_
      rotate_left
      · intro w'
        go_simp
        with_reducible rfl
      rotate_left
      · simp only [Act.put, List.setIfInBounds_toArray, List.set_cons_zero, List.set_cons_succ, i64_w, i32_w]
        rfl
      refine inv_at [0, 2, 4, 6, 8, 9, 10, 11, 12, 13, 14, 15] (fun a0_ b a w' => ∃ (v109 : Value) (v112 : Value), a = putSel a0_ b [(0, 12, v109), (2, 14, .int .i64 a0_1), (4, 16, .int .i64 a0_2), (6, 18, .int .i64 a0_3), (8, 20, .int .i64 a0_4), (9, 21, v112), (10, 22, .tuple #[.string t114, .int .i64 t115]), (11, 11, .tuple #[.string t114, .int .i64 t115]), (12, 23, .string t114), (13, 24, .int .i64 t115), (14, 3, .string t114), (15, 4, .int .i64 t115)] ∧ (w'.heap[gb107]? = some (.cells #[.bool true, .int .i64 a0_1, .int .i64 a0_2, .int .i64 a0_3, .int .i64 a0_4] 30 (0, 0))) ∧ (Below w.heap.size w w') ∧ (b 0 = true → Kd.R (Kd.int .i64) 3 w' w.heap.size (fun _ => True) v109 t108) ∧ (b 9 = true → Kd.R (Kd.int .i64) 3 w' w.heap.size (fun _ => True) v112 y111)) HT_.out HW_.out (by kernel_rfl) (by kernel_rfl) ?_ ?_ ?_
      · exact ⟨.bool false, .bool false, by simp only [putSel, Bool.false_eq_true, if_false], BK107.out, HB.out, fun h_ => absurd h_ (by decide), fun h_ => absurd h_ (by decide)⟩
      · skip
        clear BK107 HB
        refine steps_cons ?_ ?_
        · rintro b a w' ⟨v109, v112, ha, Q_BK107, Q_HB, Q_HO110, Q_HO113⟩ hb_ hon hoff
          refine ⟨_, rfl, fun K hK => ?_⟩
          replace ha := Aside0.mk ha
          have BK107 := Aside0.mk Q_BK107
          have HB := Aside0.mk Q_HB
          refine goes_ Try.func24 (by kernel_rfl) rfl #[] (by rfl) rfl rfl (by first | (simp only [List.map_toArray, List.map_cons, List.map_nil, Act.eval, Array.getD_eq_getD_getElem?, Option.getD_some]; done) | (simp only [List.map_toArray, List.map_cons, List.map_nil, Act.eval, Array.getD_eq_getD_getElem?, Option.getD_some]; rfl)) ?_
          with_reducible refine (glyf_fields.calls  t108 _ A3.out).mono ?_
          rintro e w32 ⟨v109, rfl, ho0, hb⟩
          refine ⟨_, rfl, ?_⟩
          have n0_ := Aside0.mk (Kd.R_lower ho0 (below_size (by repeat (first | (with_reducible first | exact HB.out | apply below_alloc | apply pw_below_drewN | apply below_drew1 | refine below_set ?_ GE107.out) | exact HB.out))))
          have n1_ := Aside0.mk (blk_below (g := gb107) (o := .cells #[.bool true, .int .i64 a0_1, .int .i64 a0_2, .int .i64 a0_3, .int .i64 a0_4] 30 (0, 0)) (by (with_reducible repeat (first | refine blk_drewN ?_ _ | refine blk_drew ?_ | refine blk_alloc ?_ _)); exact BK107.out) hb)
          have n2_ := Aside0.mk (below_step (by repeat (first | (with_reducible first | exact HB.out | apply below_alloc | apply pw_below_drewN | apply below_drew1 | refine below_set ?_ GE107.out) | exact HB.out)) hb)
          have z_HO113 := fun (h0_ : b 9 = true) => (show Kd.R (Kd.int .i64) 3 w32 w.heap.size (fun _ => True) v112 y111 from by first | exact (Kd.R_elder' (by (with_reducible repeat (first | apply Kd.R_alloc | apply Kd.R_drewN | apply Kd.R_drew)); exact (Q_HO113 h0_)) (Kd.R_base ho0) hb) | exact Kd.R_mono (Kd.R_elder' (by (with_reducible repeat (first | apply Kd.R_alloc | apply Kd.R_drewN | apply Kd.R_drew)); exact (Q_HO113 h0_)) (Kd.R_base ho0) hb) (fun _ h_ => by first | trivial | exact h_ | exact h_.1))
          clear BK107
          clear HB
          have HO110 := n0_
          have BK107 := n1_
          have HB := n2_
          clear n0_ n1_ n2_
          (try clear hb)
          (try clear hb2)
          (try clear hk)
          (try clear hi)
          (try clear ho0)
          refine hK.out _ _ ⟨v109, v112, (by rw [ha.out]; exact putSel_upk 0 hb_ rfl rfl rfl), (by (with_reducible repeat (first | refine blk_drewN ?_ _ | refine blk_drew ?_ | refine blk_alloc ?_ _)); exact BK107.out), (by repeat (first | (with_reducible first | exact HB.out | apply below_alloc | apply pw_below_drewN | apply below_drew1 | refine below_set ?_ GE107.out) | exact HB.out)), fun _ => (by (with_reducible repeat (first | apply Kd.R_alloc | apply Kd.R_drewN | apply Kd.R_drew)); exact HO110.out), z_HO113⟩
        refine steps_cons ?_ ?_
        · rintro b a w' ⟨v109, v112, ha, Q_BK107, Q_HB, Q_HO110, Q_HO113⟩ hb_ hon hoff
          refine ⟨_, rfl, fun K hK => ?_⟩
          have e13 : a.tmps[13]? = some (.pointer (some ⟨gb107, 1, none⟩)) := by rw [ha]; exact (putSel_off rfl).trans rfl
          replace ha := Aside0.mk ha
          have BK107 := Aside0.mk Q_BK107
          have HB := Aside0.mk Q_HB
          have hc0_ : w'.cell? ⟨gb107, 0, none⟩ = some (.bool true) := (blk_cell BK107.out 0).trans rfl
          have hc1_ : w'.cell? ⟨gb107, 1, none⟩ = some (.int .i64 a0_1) := (blk_cell BK107.out 1).trans rfl
          have hc2_ : w'.cell? ⟨gb107, 2, none⟩ = some (.int .i64 a0_2) := (blk_cell BK107.out 2).trans rfl
          have hc3_ : w'.cell? ⟨gb107, 3, none⟩ = some (.int .i64 a0_3) := (blk_cell BK107.out 3).trans rfl
          have hc4_ : w'.cell? ⟨gb107, 4, none⟩ = some (.int .i64 a0_4) := (blk_cell BK107.out 4).trans rfl
          refine value_ (w1 := w') (v := .int .i64 a0_1) (by rfl) rfl ?_ ?_
          · go_simp
            (try simp only [i64_w])
            try rfl
          refine hK.out _ _ ⟨v109, v112, (by rw [ha.out]; exact putSel_upk 1 hb_ rfl rfl rfl), Q_BK107, Q_HB, Q_HO110, fun h0_ => absurd ((hoff 9 (by kernel_rfl)).symm.trans h0_) (by decide)⟩
        refine steps_cons ?_ ?_
        · rintro b a w' ⟨v109, v112, ha, Q_BK107, Q_HB, Q_HO110, Q_HO113⟩ hb_ hon hoff
          refine ⟨_, rfl, fun K hK => ?_⟩
          have e15 : a.tmps[15]? = some (.pointer (some ⟨gb107, 2, none⟩)) := by rw [ha]; exact (putSel_off rfl).trans rfl
          replace ha := Aside0.mk ha
          have BK107 := Aside0.mk Q_BK107
          have HB := Aside0.mk Q_HB
          have hc0_ : w'.cell? ⟨gb107, 0, none⟩ = some (.bool true) := (blk_cell BK107.out 0).trans rfl
          have hc1_ : w'.cell? ⟨gb107, 1, none⟩ = some (.int .i64 a0_1) := (blk_cell BK107.out 1).trans rfl
          have hc2_ : w'.cell? ⟨gb107, 2, none⟩ = some (.int .i64 a0_2) := (blk_cell BK107.out 2).trans rfl
          have hc3_ : w'.cell? ⟨gb107, 3, none⟩ = some (.int .i64 a0_3) := (blk_cell BK107.out 3).trans rfl
          have hc4_ : w'.cell? ⟨gb107, 4, none⟩ = some (.int .i64 a0_4) := (blk_cell BK107.out 4).trans rfl
          refine value_ (w1 := w') (v := .int .i64 a0_2) (by rfl) rfl ?_ ?_
          · go_simp
            (try simp only [i64_w])
            try rfl
          refine hK.out _ _ ⟨v109, v112, (by rw [ha.out]; exact putSel_upk 2 hb_ rfl rfl rfl), Q_BK107, Q_HB, Q_HO110, fun h0_ => absurd ((hoff 9 (by kernel_rfl)).symm.trans h0_) (by decide)⟩
        refine steps_cons ?_ ?_
        · rintro b a w' ⟨v109, v112, ha, Q_BK107, Q_HB, Q_HO110, Q_HO113⟩ hb_ hon hoff
          refine ⟨_, rfl, fun K hK => ?_⟩
          have e17 : a.tmps[17]? = some (.pointer (some ⟨gb107, 3, none⟩)) := by rw [ha]; exact (putSel_off rfl).trans rfl
          replace ha := Aside0.mk ha
          have BK107 := Aside0.mk Q_BK107
          have HB := Aside0.mk Q_HB
          have hc0_ : w'.cell? ⟨gb107, 0, none⟩ = some (.bool true) := (blk_cell BK107.out 0).trans rfl
          have hc1_ : w'.cell? ⟨gb107, 1, none⟩ = some (.int .i64 a0_1) := (blk_cell BK107.out 1).trans rfl
          have hc2_ : w'.cell? ⟨gb107, 2, none⟩ = some (.int .i64 a0_2) := (blk_cell BK107.out 2).trans rfl
          have hc3_ : w'.cell? ⟨gb107, 3, none⟩ = some (.int .i64 a0_3) := (blk_cell BK107.out 3).trans rfl
          have hc4_ : w'.cell? ⟨gb107, 4, none⟩ = some (.int .i64 a0_4) := (blk_cell BK107.out 4).trans rfl
          refine value_ (w1 := w') (v := .int .i64 a0_3) (by rfl) rfl ?_ ?_
          · go_simp
            (try simp only [i64_w])
            try rfl
          refine hK.out _ _ ⟨v109, v112, (by rw [ha.out]; exact putSel_upk 3 hb_ rfl rfl rfl), Q_BK107, Q_HB, Q_HO110, fun h0_ => absurd ((hoff 9 (by kernel_rfl)).symm.trans h0_) (by decide)⟩
        refine steps_cons ?_ ?_
        · rintro b a w' ⟨v109, v112, ha, Q_BK107, Q_HB, Q_HO110, Q_HO113⟩ hb_ hon hoff
          refine ⟨_, rfl, fun K hK => ?_⟩
          have e19 : a.tmps[19]? = some (.pointer (some ⟨gb107, 4, none⟩)) := by rw [ha]; exact (putSel_off rfl).trans rfl
          replace ha := Aside0.mk ha
          have BK107 := Aside0.mk Q_BK107
          have HB := Aside0.mk Q_HB
          have hc0_ : w'.cell? ⟨gb107, 0, none⟩ = some (.bool true) := (blk_cell BK107.out 0).trans rfl
          have hc1_ : w'.cell? ⟨gb107, 1, none⟩ = some (.int .i64 a0_1) := (blk_cell BK107.out 1).trans rfl
          have hc2_ : w'.cell? ⟨gb107, 2, none⟩ = some (.int .i64 a0_2) := (blk_cell BK107.out 2).trans rfl
          have hc3_ : w'.cell? ⟨gb107, 3, none⟩ = some (.int .i64 a0_3) := (blk_cell BK107.out 3).trans rfl
          have hc4_ : w'.cell? ⟨gb107, 4, none⟩ = some (.int .i64 a0_4) := (blk_cell BK107.out 4).trans rfl
          refine value_ (w1 := w') (v := .int .i64 a0_4) (by rfl) rfl ?_ ?_
          · go_simp
            (try simp only [i64_w])
            try rfl
          refine hK.out _ _ ⟨v109, v112, (by rw [ha.out]; exact putSel_upk 4 hb_ rfl rfl rfl), Q_BK107, Q_HB, Q_HO110, fun h0_ => absurd ((hoff 9 (by kernel_rfl)).symm.trans h0_) (by decide)⟩
        refine steps_cons ?_ ?_
        · rintro b a w' ⟨v109, v112, ha, Q_BK107, Q_HB, Q_HO110, Q_HO113⟩ hb_ hon hoff
          refine ⟨_, rfl, fun K hK => ?_⟩
          have e14 : a.tmps[14]? = some (.int .i64 a0_1) := by rw [ha]; exact putSel_on (e := (2, 14, .int .i64 a0_1)) 1 rfl rfl (hon 2 (by kernel_rfl)) rfl
          have e16 : a.tmps[16]? = some (.int .i64 a0_2) := by rw [ha]; exact putSel_on (e := (4, 16, .int .i64 a0_2)) 2 rfl rfl (hon 4 (by kernel_rfl)) rfl
          have e18 : a.tmps[18]? = some (.int .i64 a0_3) := by rw [ha]; exact putSel_on (e := (6, 18, .int .i64 a0_3)) 3 rfl rfl (hon 6 (by kernel_rfl)) rfl
          have e20 : a.tmps[20]? = some (.int .i64 a0_4) := by rw [ha]; exact putSel_on (e := (8, 20, .int .i64 a0_4)) 4 rfl rfl (hon 8 (by kernel_rfl)) rfl
          replace ha := Aside0.mk ha
          have BK107 := Aside0.mk Q_BK107
          have HB := Aside0.mk Q_HB
          refine Kd.R_lit_step (Kd.int .i64) _ 3 ?hg (N := 21) ?hd (xs := ([a0_1, a0_2, a0_3, a0_4] : List Int)) (inner := [.int .i64 a0_1, .int .i64 a0_2, .int .i64 a0_3, .int .i64 a0_4]) (ok := fun _ => True) (okp := fun _ => True) ?hr ?hp (fun _ hk => hk) trivial (Below.refl _ _) (Nat.le_refl _) (by simp) ?_; (case hd => rfl); (case hg => rfl); (case hr => first | (go_simp; done) | (go_simp; rfl)); (case hp => exact (Reps.one (show Kd.M (Kd.int .i64) _ _ _ a0_1 [.int .i64 a0_1] from rfl) (Reps.one (show Kd.M (Kd.int .i64) _ _ _ a0_2 [.int .i64 a0_2] from rfl) (Reps.one (show Kd.M (Kd.int .i64) _ _ _ a0_3 [.int .i64 a0_3] from rfl) (Reps.one (show Kd.M (Kd.int .i64) _ _ _ a0_4 [.int .i64 a0_4] from rfl) (Reps.none _ _))))))
          intro v112 w32 ho33 hb hg_ hnew_
          clear hg_ hnew_
          (first | rw [← Ny111.out] at ho33 | (simp only [Int.reduceToNat] at ho33; rw [← Ny111.out] at ho33))
          have n0_ := Aside0.mk (Kd.R_lower ho33 (below_size (by repeat (first | (with_reducible first | exact HB.out | apply below_alloc | apply pw_below_drewN | apply below_drew1 | refine below_set ?_ GE107.out) | exact HB.out))))
          have n1_ := Aside0.mk (blk_below (g := gb107) (o := .cells #[.bool true, .int .i64 a0_1, .int .i64 a0_2, .int .i64 a0_3, .int .i64 a0_4] 30 (0, 0)) (by (with_reducible repeat (first | refine blk_drewN ?_ _ | refine blk_drew ?_ | refine blk_alloc ?_ _)); exact BK107.out) hb)
          have n2_ := Aside0.mk (below_step (by repeat (first | (with_reducible first | exact HB.out | apply below_alloc | apply pw_below_drewN | apply below_drew1 | refine below_set ?_ GE107.out) | exact HB.out)) hb)
          have z_HO110 := fun (h0_ : b 0 = true) => (show Kd.R (Kd.int .i64) 3 w32 w.heap.size (fun _ => True) v109 t108 from by first | exact (Kd.R_elder' (by (with_reducible repeat (first | apply Kd.R_alloc | apply Kd.R_drewN | apply Kd.R_drew)); exact (Q_HO110 h0_)) (Kd.R_base ho33) hb) | exact Kd.R_mono (Kd.R_elder' (by (with_reducible repeat (first | apply Kd.R_alloc | apply Kd.R_drewN | apply Kd.R_drew)); exact (Q_HO110 h0_)) (Kd.R_base ho33) hb) (fun _ h_ => by first | trivial | exact h_ | exact h_.1))
          clear BK107
          clear HB
          have HO113 := n0_
          have BK107 := n1_
          have HB := n2_
          clear n0_ n1_ n2_
          clear hb ho33
          refine hK.out _ _ ⟨v109, v112, (by rw [ha.out]; exact putSel_upk 5 hb_ rfl rfl rfl), (by (with_reducible repeat (first | refine blk_drewN ?_ _ | refine blk_drew ?_ | refine blk_alloc ?_ _)); exact BK107.out), (by repeat (first | (with_reducible first | exact HB.out | apply below_alloc | apply pw_below_drewN | apply below_drew1 | refine below_set ?_ GE107.out) | exact HB.out)), z_HO110, fun _ => (by (with_reducible repeat (first | apply Kd.R_alloc | apply Kd.R_drewN | apply Kd.R_drew)); exact HO113.out)⟩
        refine steps_cons ?_ ?_
        · rintro b a w' ⟨v109, v112, ha, Q_BK107, Q_HB, Q_HO110, Q_HO113⟩ hb_ hon hoff
          refine ⟨_, rfl, fun K hK => ?_⟩
          have e12 : a.tmps[12]? = some (v109) := by rw [ha]; exact putSel_on (e := (0, 12, v109)) 0 rfl rfl (hon 0 (by kernel_rfl)) rfl
          have e21 : a.tmps[21]? = some (v112) := by rw [ha]; exact putSel_on (e := (9, 21, v112)) 5 rfl rfl (hon 9 (by kernel_rfl)) rfl
          replace ha := Aside0.mk ha
          have BK107 := Aside0.mk Q_BK107
          have HB := Aside0.mk Q_HB
          have HO110 := Aside0.mk (Q_HO110 (hon 0 (by kernel_rfl)))
          have HO113 := Aside0.mk (Q_HO113 (hon 9 (by kernel_rfl)))
          obtain ⟨Ao36, co36, eo36⟩ := Kd.R_slice HO110.out
          (first | subst eo36 | (injection eo36 with f1_ f2_ f3_; have f4_ := f1_.symm; have f5_ := f3_.symm; clear f1_ f2_ f3_; subst f4_; subst f5_))
          obtain ⟨Ao37, co37, eo37⟩ := Kd.R_slice HO113.out
          (first | subst eo37 | (injection eo37 with f1_ f2_ f3_; have f4_ := f1_.symm; have f5_ := f3_.symm; clear f1_ f2_ f3_; subst f4_; subst f5_))
          refine goes_ Try.func23 (by kernel_rfl) rfl #[.slice Ao36 t108.length co36, .slice Ao37 y111.length co37] (by rfl) rfl rfl (by first | (simp only [List.map_toArray, List.map_cons, List.map_nil, Act.eval, Array.getD_eq_getD_getElem?, Option.getD_some, e12, e21]; done) | (simp only [List.map_toArray, List.map_cons, List.map_nil, Act.eval, Array.getD_eq_getD_getElem?, Option.getD_some, e12, e21]; rfl)) ?_
          with_reducible refine (bin_Put.calls _ _ t108 _ _ y111 t114 t115 _ ?side1 ?side2 ?side3 ?side4 A4.out).mono ?_
          (case side1 => repeat (first | exact (Kd.R_reads' HO110.out).2.2 | (with_reducible refine Kd.C_alloc ?_ _) | (with_reducible refine Kd.C_drewN ?_ _) | (with_reducible refine Kd.C_drew ?_)))
          (case side2 => exact (Kd.R_reads' HO110.out).2.1)
          (case side3 => repeat (first | exact (Kd.R_reads' HO113.out).2.2 | (with_reducible refine Kd.C_alloc ?_ _) | (with_reducible refine Kd.C_drewN ?_ _) | (with_reducible refine Kd.C_drew ?_)))
          (case side4 => exact (Kd.R_reads' HO113.out).2.1)
          rintro e w38 ⟨rfl, hb⟩
          refine ⟨_, rfl, ?_⟩
          have n0_ := Aside0.mk (Kd.R_below (by (with_reducible repeat (first | apply Kd.R_alloc | apply Kd.R_drewN | apply Kd.R_drew)); exact HO110.out) hb)
          have n1_ := Aside0.mk (Kd.R_below (by (with_reducible repeat (first | apply Kd.R_alloc | apply Kd.R_drewN | apply Kd.R_drew)); exact HO113.out) hb)
          have n2_ := Aside0.mk (blk_below (g := gb107) (o := .cells #[.bool true, .int .i64 a0_1, .int .i64 a0_2, .int .i64 a0_3, .int .i64 a0_4] 30 (0, 0)) (by (with_reducible repeat (first | refine blk_drewN ?_ _ | refine blk_drew ?_ | refine blk_alloc ?_ _)); exact BK107.out) hb)
          have n3_ := Aside0.mk (below_step (by repeat (first | (with_reducible first | exact HB.out | apply below_alloc | apply pw_below_drewN | apply below_drew1 | refine below_set ?_ GE107.out) | exact HB.out)) hb)
          clear HO110
          clear HO113
          clear BK107
          clear HB
          have HO110 := n0_
          have HO113 := n1_
          have BK107 := n2_
          have HB := n3_
          clear n0_ n1_ n2_ n3_
          (try clear hb)
          (try clear hb2)
          (try clear hk)
          (try clear hi)
          refine hK.out _ _ ⟨.slice Ao36 t108.length co36, .slice Ao37 y111.length co37, (by rw [ha.out]; exact putSel_upk 6 hb_ rfl rfl rfl), (by (with_reducible repeat (first | refine blk_drewN ?_ _ | refine blk_drew ?_ | refine blk_alloc ?_ _)); exact BK107.out), (by repeat (first | (with_reducible first | exact HB.out | apply below_alloc | apply pw_below_drewN | apply below_drew1 | refine below_set ?_ GE107.out) | exact HB.out)), fun _ => (by (with_reducible repeat (first | apply Kd.R_alloc | apply Kd.R_drewN | apply Kd.R_drew)); exact HO110.out), fun _ => (by (with_reducible repeat (first | apply Kd.R_alloc | apply Kd.R_drewN | apply Kd.R_drew)); exact HO113.out)⟩
        refine steps_cons ?_ ?_
        · rintro b a w' ⟨v109, v112, ha, Q_BK107, Q_HB, Q_HO110, Q_HO113⟩ hb_ hon hoff
          refine ⟨_, rfl, fun K hK => ?_⟩
          have e22 : a.tmps[22]? = some (.tuple #[.string t114, .int .i64 t115]) := by rw [ha]; exact putSel_on (e := (10, 22, .tuple #[.string t114, .int .i64 t115])) 6 rfl rfl (hon 10 (by kernel_rfl)) rfl
          replace ha := Aside0.mk ha
          have BK107 := Aside0.mk Q_BK107
          have HB := Aside0.mk Q_HB
          have HO110 := Aside0.mk (Q_HO110 (hon 0 (by kernel_rfl)))
          have HO113 := Aside0.mk (Q_HO113 (hon 9 (by kernel_rfl)))
          refine value_ (w1 := w') (v := .tuple #[.string t114, .int .i64 t115]) (by rfl) rfl ?_ ?_
          · go_simp
            (try simp only [i64_w])
            try rfl
          refine hK.out _ _ ⟨v109, v112, (by rw [ha.out]; exact putSel_upk 7 hb_ rfl rfl rfl), Q_BK107, Q_HB, Q_HO110, Q_HO113⟩
        refine steps_cons ?_ ?_
        · rintro b a w' ⟨v109, v112, ha, Q_BK107, Q_HB, Q_HO110, Q_HO113⟩ hb_ hon hoff
          refine ⟨_, rfl, fun K hK => ?_⟩
          have e11 : a.tmps[11]? = some (.tuple #[.string t114, .int .i64 t115]) := by rw [ha]; exact putSel_on (e := (11, 11, .tuple #[.string t114, .int .i64 t115])) 7 rfl rfl (hon 11 (by kernel_rfl)) rfl
          replace ha := Aside0.mk ha
          have BK107 := Aside0.mk Q_BK107
          have HB := Aside0.mk Q_HB
          have HO110 := Aside0.mk (Q_HO110 (hon 0 (by kernel_rfl)))
          have HO113 := Aside0.mk (Q_HO113 (hon 9 (by kernel_rfl)))
          refine value_ (w1 := w') (v := .string t114) (by rfl) rfl ?_ ?_
          · go_simp
            (try simp only [i64_w])
            try rfl
          refine hK.out _ _ ⟨v109, v112, (by rw [ha.out]; exact putSel_upk 8 hb_ rfl rfl rfl), Q_BK107, Q_HB, Q_HO110, Q_HO113⟩
        refine steps_cons ?_ ?_
        · rintro b a w' ⟨v109, v112, ha, Q_BK107, Q_HB, Q_HO110, Q_HO113⟩ hb_ hon hoff
          refine ⟨_, rfl, fun K hK => ?_⟩
          have e11 : a.tmps[11]? = some (.tuple #[.string t114, .int .i64 t115]) := by rw [ha]; exact putSel_on (e := (11, 11, .tuple #[.string t114, .int .i64 t115])) 7 rfl rfl (hon 11 (by kernel_rfl)) rfl
          replace ha := Aside0.mk ha
          have BK107 := Aside0.mk Q_BK107
          have HB := Aside0.mk Q_HB
          have HO110 := Aside0.mk (Q_HO110 (hon 0 (by kernel_rfl)))
          have HO113 := Aside0.mk (Q_HO113 (hon 9 (by kernel_rfl)))
          refine value_ (w1 := w') (v := .int .i64 t115) (by rfl) rfl ?_ ?_
          · go_simp
            (try simp only [i64_w])
            try rfl
          refine hK.out _ _ ⟨v109, v112, (by rw [ha.out]; exact putSel_upk 9 hb_ rfl rfl rfl), Q_BK107, Q_HB, Q_HO110, Q_HO113⟩
        refine steps_cons ?_ ?_
        · rintro b a w' ⟨v109, v112, ha, Q_BK107, Q_HB, Q_HO110, Q_HO113⟩ hb_ hon hoff
          refine ⟨_, rfl, fun K hK => ?_⟩
          have e23 : a.tmps[23]? = some (.string t114) := by rw [ha]; exact putSel_on (e := (12, 23, .string t114)) 8 rfl rfl (hon 12 (by kernel_rfl)) rfl
          replace ha := Aside0.mk ha
          have BK107 := Aside0.mk Q_BK107
          have HB := Aside0.mk Q_HB
          have HO110 := Aside0.mk (Q_HO110 (hon 0 (by kernel_rfl)))
          have HO113 := Aside0.mk (Q_HO113 (hon 9 (by kernel_rfl)))
          refine value_ (w1 := w') (v := .string t114) (by rfl) rfl ?_ ?_
          · go_simp
            (try simp only [i64_w])
            try rfl
          refine hK.out _ _ ⟨v109, v112, (by rw [ha.out]; exact putSel_upk 10 hb_ rfl rfl rfl), Q_BK107, Q_HB, Q_HO110, Q_HO113⟩
        refine steps_cons ?_ ?_
        · rintro b a w' ⟨v109, v112, ha, Q_BK107, Q_HB, Q_HO110, Q_HO113⟩ hb_ hon hoff
          refine ⟨_, rfl, fun K hK => ?_⟩
          have e24 : a.tmps[24]? = some (.int .i64 t115) := by rw [ha]; exact putSel_on (e := (13, 24, .int .i64 t115)) 9 rfl rfl (hon 13 (by kernel_rfl)) rfl
          replace ha := Aside0.mk ha
          have BK107 := Aside0.mk Q_BK107
          have HB := Aside0.mk Q_HB
          have HO110 := Aside0.mk (Q_HO110 (hon 0 (by kernel_rfl)))
          have HO113 := Aside0.mk (Q_HO113 (hon 9 (by kernel_rfl)))
          refine value_ (w1 := w') (v := .int .i64 t115) (by rfl) rfl ?_ ?_
          · go_simp
            (try simp only [i64_w])
            try rfl
          refine hK.out _ _ ⟨v109, v112, (by rw [ha.out]; exact putSel_upk 11 hb_ rfl rfl rfl), Q_BK107, Q_HB, Q_HO110, Q_HO113⟩
        exact steps_nil
      rintro b a w38 hall ⟨v109, v112, ha, Q_BK107, Q_HB, Q_HO110, Q_HO113⟩
      clear BK107 HB
      have hb0_ := hall 0 (by kernel_rfl)
      have hb2_ := hall 2 (by kernel_rfl)
      have hb4_ := hall 4 (by kernel_rfl)
      have hb6_ := hall 6 (by kernel_rfl)
      have hb8_ := hall 8 (by kernel_rfl)
      have hb9_ := hall 9 (by kernel_rfl)
      have hb10_ := hall 10 (by kernel_rfl)
      have hb11_ := hall 11 (by kernel_rfl)
      have hb12_ := hall 12 (by kernel_rfl)
      have hb13_ := hall 13 (by kernel_rfl)
      have hb14_ := hall 14 (by kernel_rfl)
      have hb15_ := hall 15 (by kernel_rfl)
      subst ha
      simp only [putSel, hb0_, hb2_, hb4_, hb6_, hb8_, hb9_, hb10_, hb11_, hb12_, hb13_, hb14_, hb15_, if_true, Act.put, List.setIfInBounds_toArray, List.set_cons_zero, List.set_cons_succ]
      have BK107 := Aside0.mk Q_BK107
      clear Q_BK107
      have HB := Aside0.mk Q_HB
      clear Q_HB
      have HO110 := Aside0.mk (Q_HO110 hb0_)
      clear Q_HO110
      have HO113 := Aside0.mk (Q_HO113 hb9_)
      clear Q_HO113
      clear hall hb0_ hb2_ hb4_ hb6_ hb8_ hb9_ hb10_ hb11_ hb12_ hb13_ hb14_ hb15_
      try go_wp2
      go_ret
      exact ⟨by first | rfl | (simp [errW_none, errW_some] <;> rfl) | (simp [*, errW_none, errW_some] <;> rfl), by repeat (first | (with_reducible first | exact HB.out | apply below_alloc | apply pw_below_drewN | apply below_drew1 | refine below_set ?_ GE107.out) | exact HB.out)⟩
  · replace c2 := Bool.eq_false_iff.mpr c2
    subst c2
    have H1 : (some (!false && (a0_1 == 0 && (a0_2 == 0 && (a0_3 == 0 && (a0_4 == 0)))))) = some r := by rw [if_neg (show ¬ (false = true) by decide)] at H; exact H
    clear H
    have H := H1
    clear H1
    obtain rfl := Option.some.inj H
    go_enter Try.func11, Try.ntmps11
    go_wp2_with (first | ((with_reducible refine gate_dst (N := 1) rfl ?_); refine box_event ?hg (N := 1) ?hd (cs := #[.bool false, .int .i64 a0_1, .int .i64 a0_2, .int .i64 a0_3, .int .i64 a0_4]) (t := 30) ?hr ?_; (case hd => rfl); (case hg => rfl); (case hr => first | (go_simp; done) | (go_simp; rfl)); intro gb107 hg w39 hbox hb; have n0_ := Aside0.mk (below_step (by repeat (first | (with_reducible first | exact HB.out | apply below_alloc | apply pw_below_drewN | apply below_drew1) | exact HB.out)) hb); have n1_ := Aside0.mk (hbox); have n2_ := Aside0.mk ((by rw [hg]; exact (below_size (by repeat (first | (with_reducible first | exact HB.out | apply below_alloc | apply pw_below_drewN | apply below_drew1) | exact HB.out))) : w.heap.size ≤ gb107)); have n3_ := Aside0.mk ((by rw [hg]; exact (below_size (by repeat (first | (with_reducible first | exact HB.out | apply below_alloc | apply pw_below_drewN | apply below_drew1) | exact HB.out))) : w.heap.size ≤ gb107)); clear HB; have HB := n0_; have BK107 := n1_; have GW107 := n2_; have GE107 := n3_; clear n0_ n1_ n2_ n3_; clear hb hbox hg; have hcz40_0 : w39.cell? ⟨gb107, 0, none⟩ = some (.bool false) := (blk_cell BK107.out 0).trans rfl; have hcz40_1 : w39.cell? ⟨gb107, 1, none⟩ = some (.int .i64 a0_1) := (blk_cell BK107.out 1).trans rfl; have hcz40_2 : w39.cell? ⟨gb107, 2, none⟩ = some (.int .i64 a0_2) := (blk_cell BK107.out 2).trans rfl; have hcz40_3 : w39.cell? ⟨gb107, 3, none⟩ = some (.int .i64 a0_3) := (blk_cell BK107.out 3).trans rfl; have hcz40_4 : w39.cell? ⟨gb107, 4, none⟩ = some (.int .i64 a0_4) := (blk_cell BK107.out 4).trans rfl; have hfz40_0 := blk_frozen BK107.out 0; have hfz40_1 := blk_frozen BK107.out 1; have hfz40_2 := blk_frozen BK107.out 2; have hfz40_3 := blk_frozen BK107.out 3; have hfz40_4 := blk_frozen BK107.out 4))
    go_ret
    exact ⟨by first | rfl | (simp [errW_none, errW_some] <;> rfl) | (simp [*, errW_none, errW_some] <;> rfl), by repeat (first | (with_reducible first | exact HB.out | apply below_alloc | apply pw_below_drewN | apply below_drew1 | refine below_set ?_ GE107.out) | exact HB.out)⟩
end Go.Proofs.Ytjmliafplgjkhaa.P
end
