/- A part of the proof of the law GlyfDeep: the words, contracts and plain facts that it needs, no more. Each says its own condition. -/
import Derived.Test.YtjmliafplgjkhaaZGlyfDeepl
import Derived.Test.YtjmliafplgjkhaaZGlyfDeepr
section
namespace Go.Proofs.Ytjmliafplgjkhaa.P
open Go.RowKit Go.Proofs.YtjmliafplgjkhaaW.PrintWords Go.Proofs.YtjmliafplgjkhaaW.PrintLast Go.Proofs.YtjmliafplgjkhaaW.PrintMore
set_option linter.unusedSimpArgs false
set_option linter.unusedVariables false
theorem lit_C (w : World) (l : List Int) (h : l.length ≤ maxLen) : Kd.C (Kd.int .i64) (w.alloc (.cells (l.map (Value.int .i64)).toArray 3)) (some ⟨w.heap.size, 0, none⟩) l.length l := by
  have ho := World.ownsRow_lit (base := 0) (e := 3) (size := 1) w (l.map (Value.int .i64)).toArray l.length (Nat.zero_le _) h (by simp)
  have hr : Kd.R (Kd.int .i64) 3 (w.alloc (.cells (l.map (Value.int .i64)).toArray 3)) 0 (fun _ => True) (.slice (some ⟨w.heap.size, 0, none⟩) l.length l.length) l := Kd.R_of_own (by simpa [encs] using ho) (fun _ _ => trivial)
  obtain ⟨A, c, e, _, hC⟩ := Kd.R_reads hr
  injection e with e1 e2 e3
  rw [e1]; exact hC
theorem lit_R (w : World) (l : List Int) (h : l.length ≤ maxLen) : Kd.R (Kd.int .i64) 3 (w.alloc (.cells (l.map (Value.int .i64)).toArray 3)) w.heap.size (fun _ => True) (.slice (some ⟨w.heap.size, 0, none⟩) l.length l.length) l := by
  have ho := World.ownsRow_lit (base := w.heap.size) (e := 3) (size := 1) w (l.map (Value.int .i64)).toArray l.length (Nat.le_refl _) h (by simp)
  exact Kd.R_of_own (by simpa [encs] using ho) (fun _ _ => trivial)
theorem row_block {W : World} {base : Nat} {ok : Nat → Prop} {v : Value} {xs : List Int} (h : Kd.R (Kd.int .i64) 3 W base ok v xs) (hn : 0 < xs.length) :
    ∃ ga cap, v = .slice (some ⟨ga, 0, none⟩) xs.length cap ∧ base ≤ ga ∧ ga < W.heap.size ∧ xs.length ≤ cap ∧ cap ≤ maxLen ∧ ∀ j, j < xs.length → W.cell? ⟨ga, j, none⟩ = some (.int .i64 (rd xs (j : Int))) := by
  have ho := Kd.own_of_R h
  rcases ho.2 with ⟨_, h0⟩ | ⟨g, cap, cur, rfl, hb, hg, hnc, hcm, hcs, ht⟩
  · omega
  · refine ⟨g, cap, rfl, hb, blk_lt hg, hnc, hcm, fun j hj => ?_⟩
    have := ho.cellAt j (by omega)
    rw [this]
    unfold encs rd
    simp [List.getD_eq_getElem?_getD, List.getElem?_eq_getElem hj]
theorem less_step {N n m : Nat} (h : 0 < m) (hN : n + m ≤ N) : N - (intOf (Value.int .i64 ((n + m : Nat) : Int))).toNat < N - (intOf (Value.int .i64 (n : Int))).toNat := by
  have e1 : (intOf (Value.int .i64 ((n + m : Nat) : Int))).toNat = n + m := Int.toNat_natCast _
  have e2 : (intOf (Value.int .i64 (n : Int))).toNat = n := Int.toNat_natCast _
  rw [e1, e2]; omega
theorem takes_len : ∀ (l : List Int) (t : ByteArray) (r : List Int), takes t l = some r → r.length = l.length
  | [], t, r, h => by simp [takes] at h; rw [← h]
  | s :: l, t, r, h => by
    simp only [takes] at h
    split at h
    · cases hq : takes (t.extract s.natAbs t.size) l with
      | none => rw [hq] at h; simp at h
      | some q =>
        rw [hq] at h
        simp at h
        rw [← h, List.length_cons, List.length_cons, takes_len l _ q hq]
    · simp at h
theorem getN_len {s : ByteArray} {p : Int} {l r : List Int} (h : getN s p l = (r, 0)) : r.length = l.length := by
  unfold getN at h
  split at h
  · simp at h
  · split at h
    · simp at h
    · split at h
      · simp at h
      · rename_i q hq
        simp at h
        rw [← h]; exact takes_len _ _ _ hq
end Go.Proofs.Ytjmliafplgjkhaa.P
end
section
namespace Go.Proofs.Ytjmliafplgjkhaa.P
open Go.RowKit Go.Proofs.YtjmliafplgjkhaaW.PrintWords Go.Proofs.YtjmliafplgjkhaaW.PrintLast Go.Proofs.YtjmliafplgjkhaaW.PrintMore
set_option linter.unusedSimpArgs false
set_option linter.unusedVariables false
def dbl (x : Int) : Int := wrap64 (x * 2)
def sizeP (far : Bool) : Int := if far = true then 4 else 2
def placesN (s : ByteArray) (g : Nat) (far : Bool) : List Int × Int :=
  if far = true then getN s 0 (repN [4] (g + 1)) else if (getN s 0 (repN [2] (g + 1))).2 = 0 then ((getN s 0 (repN [2] (g + 1))).1.map dbl, 0) else getN s 0 (repN [2] (g + 1))
theorem dbl_step (L : List Int) (i : Nat) (h : i < L.length) : ((L.take i).map dbl ++ L.drop i).set i (dbl L[i]) = (L.take (i + 1)).map dbl ++ L.drop (i + 1) := by
  have e : L.drop i = L[i] :: L.drop (i + 1) := List.drop_eq_getElem_cons h
  have ht : L.take (i + 1) = L.take i ++ [L[i]] := by rw [List.take_add_one, List.getElem?_eq_getElem h]; rfl
  have hl : ((L.take i).map dbl).length = i := by simp; omega
  rw [List.set_append_right _ _ (by rw [hl]; exact Nat.le_refl _), hl, Nat.sub_self, e, List.set_cons_zero, ht, List.map_append, List.append_assoc]
  rfl
theorem dbl_at (L : List Int) (i : Nat) (h : i < L.length) : rdOf 0 ((L.take i).map dbl ++ L.drop i) (i : Int) = L[i] := by
  have hl : ((L.take i).map dbl).length = i := by simp; omega
  unfold rdOf
  rw [Int.toNat_natCast, List.getD_eq_getElem?_getD, List.getElem?_append_right (by rw [hl]; exact Nat.le_refl _), hl, Nat.sub_self, List.getElem?_drop]
  simp [List.getElem?_eq_getElem h]
set_option maxHeartbeats 2000000 in
theorem places_far (s : ByteArray) (g : Nat) (hg : g ≤ 65535) (w : World) (L : List Int) (e : Int) (hL : getN s 0 (repN [4] (g + 1)) = (L, e)) :
    Calls Try.prog 17 #[.string s, .int .i64 (g : Int), .bool true] w fun x w' => ∃ v0_ : Value, x = .returned (.tuple #[v0_, .int .i64 e]) ∧ Kd.R (Kd.int .i64) 3 w' w.heap.size (fun _ => True) v0_ L ∧ Below w.heap.size w w' := by
  have HL := Lib.hid hL
  have hw : wrap64 ((g : Int) + 1) = ((g + 1 : Nat) : Int) := by unfold wrap64; omega
  have HG := Lib.hid hg
  clear hL hg
  go_enter Try.func17, Try.ntmps17
  go_wp2_with fail
  have hf : slices_Repeat.f [4] ((g : Int) + 1) = some (repN [4] (g + 1)) := by
    have := HG.out
    unfold slices_Repeat.f
    rw [if_pos (by refine ⟨by omega, by omega, by decide, ?_⟩; show 1 * ((g : Int) + 1).toNat ≤ _; omega)]
    congr 2
  have C1 := lit_C w [4] (by decide)
  refine (slices_Repeat.calls _ 1 [4] _ _ _ C1 (by decide) hf).mono ?_
  rintro x w1 ⟨v, rfl, hr, hb⟩
  have hl1 : (repN [4] (g + 1)).length = g + 1 := by rw [repN_length]; exact Nat.one_mul _
  obtain ⟨A1, k1, rfl⟩ := Kd.R_slice hr
  obtain ⟨_, _, e0, hk1, C2⟩ := Kd.R_reads hr
  injection e0 with e1 e2 e3
  subst e1
  subst e3
  have HC2 := Lib.hid C2
  have HK1 := Lib.hid hk1
  have HB := Lib.hid (((Below.refl w.heap.size w).alloc (Nat.le_refl _) (.cells #[.int .i64 4] 3)).trans (hb.mono (by simp)))
  clear hf C1 hr hb C2 hk1 e2
  go_wp2_with fail
  have hc := bin_Get.calls s 0 A1 k1 (repN [4] (g + 1)) L e w1 HC2.out HK1.out (by unfold bin_Get.f; rw [if_pos (by rw [hl1]; have := HG.out; omega), HL.out])
  rw [hl1] at hc
  refine hc.mono ?_
  clear hc
  rintro x w2 ⟨v, rfl, hr, hb⟩
  have HR := Lib.hid (Kd.R_lower hr HB.out.size)
  have HB2 := Lib.hid (HB.out.trans (hb.mono HB.out.size))
  obtain ⟨A2, k2, rfl⟩ := Kd.R_slice hr
  clear hr hb
  go_wp2
  go_ret2
  exact ⟨_, rfl, HR.out, HB2.out⟩
set_option maxHeartbeats 2000000 in
theorem places_near (s : ByteArray) (g : Nat) (hg : g ≤ 65535) (w : World) (L : List Int) (e : Int) (hL : getN s 0 (repN [2] (g + 1)) = (L, e)) (r : List Int) (hrr : (if e = 0 then L.map dbl else L) = r) :
    Calls Try.prog 17 #[.string s, .int .i64 (g : Int), .bool false] w fun x w' => ∃ v0_ : Value, x = .returned (.tuple #[v0_, .int .i64 e]) ∧ Kd.R (Kd.int .i64) 3 w' w.heap.size (fun _ => True) v0_ r ∧ Below w.heap.size w w' := by
  have HL := Lib.hid hL
  have HRR := Lib.hid hrr
  clear hrr
  have hw : wrap64 ((g : Int) + 1) = ((g + 1 : Nat) : Int) := by unfold wrap64; omega
  have HG := Lib.hid hg
  have hl1 : (repN [2] (g + 1)).length = g + 1 := by rw [repN_length]; exact Nat.one_mul _
  clear hL hg
  go_enter Try.func17, Try.ntmps17
  go_wp2_with fail
  have hf : slices_Repeat.f [2] ((g : Int) + 1) = some (repN [2] (g + 1)) := by
    have := HG.out
    unfold slices_Repeat.f
    rw [if_pos (by refine ⟨by omega, by omega, by decide, ?_⟩; show 1 * ((g : Int) + 1).toNat ≤ _; omega)]
    congr 2
  have C1 := lit_C w [2] (by decide)
  refine (slices_Repeat.calls _ 1 [2] _ _ _ C1 (by decide) hf).mono ?_
  rintro x w1 ⟨v, rfl, hr, hb⟩
  obtain ⟨A1, k1, rfl⟩ := Kd.R_slice hr
  obtain ⟨_, _, e0, hk1, C2⟩ := Kd.R_reads hr
  injection e0 with e1 e2 e3
  subst e1
  subst e3
  have HC2 := Lib.hid C2
  have HK1 := Lib.hid hk1
  have HB := Lib.hid (((Below.refl w.heap.size w).alloc (Nat.le_refl _) (.cells #[.int .i64 2] 3)).trans (hb.mono (by simp)))
  clear hf C1 hr hb C2 hk1 e2
  go_wp2_with fail
  have hc := bin_Get.calls s 0 A1 k1 (repN [2] (g + 1)) L e w1 HC2.out HK1.out (by unfold bin_Get.f; rw [if_pos (by rw [hl1]; have := HG.out; omega), HL.out])
  rw [hl1] at hc
  refine hc.mono ?_
  clear hc
  rintro x w2 ⟨v, rfl, hr, hb⟩
  have HR := Lib.hid (Kd.R_lower hr HB.out.size)
  have HB2 := Lib.hid (HB.out.trans (hb.mono HB.out.size))
  by_cases he : e = 0
  · have hlen : L.length = g + 1 := by have := HL.out; rw [he] at this; rw [getN_len this, hl1]
    obtain ⟨gx, kx, rfl, hgx, _, _, _, _⟩ := row_block hr (by omega)
    have HLEN := Lib.hid hlen
    have HE := Lib.hid he
    have HGX := Lib.hid (show w.heap.size ≤ gx from Nat.le_trans HB.out.size hgx)
    have d1 : (e != 0) = false := by simp [he]
    clear hr hb hgx he hlen
    go_wp2_with fail
    go_loopw [32] (fun v32 wr => ∃ i : Nat, i ≤ L.length ∧ v32 = .int .i64 (i : Int) ∧ Aside0 (Kd.R (Kd.int .i64) 3 wr w.heap.size (fun _ => True) (.slice (some ⟨gx, 0, none⟩) L.length kx) ((L.take i).map dbl ++ L.drop i)) ∧ Aside0 (Below w.heap.size w wr)) (fun v32 _ => L.length - (intOf v32).toNat)
    case atStart => exact ⟨0, Nat.zero_le _, rfl, ⟨by simpa using HR.out⟩, ⟨HB2.out⟩⟩
    case round =>
      obtain ⟨i, hi, rfl, HX, HQ⟩ := hrel
      by_cases hlt : i < L.length
      · have q0 : (0 : Int) ≤ (i : Int) := by omega
        have q1 : (i : Int) < (L.length : Int) := by omega
        have d2 : decide ((i : Int) < (L.length : Int)) = true := decide_eq_true q1
        have hwi : wrap64 ((i : Int) + 1) = ((i + 1 : Nat) : Int) := by have := HLEN.out; have := HG.out; unfold wrap64; omega
        obtain ⟨hc, hz⟩ := Kd.R_celln 0 HX.out (i : Int) q0 q1
        rw [dbl_at L i hlt, Int.toNat_natCast] at hc
        rw [Int.toNat_natCast] at hz
        have HP := Lib.hid (Kd.R_putg HX.out (i : Int) (dbl L[i]))
        rw [Int.toNat_natCast, dbl_step L i hlt] at HP
        obtain ⟨y, hy⟩ : ∃ y, y = L[i] := ⟨_, rfl⟩
        rw [← hy] at hc HP
        have HBN := Lib.hid (HQ.out.setCell (p := ⟨gx, i, none⟩) HGX.out (.int .i64 (dbl y)))
        clear hy HX
        replace q0 := eq_true q0
        replace q1 := eq_true q1
        go_wp2
        go_roundw
        case rel => exact ⟨i + 1, hlt, by rw [hwi], ⟨HP.out.1⟩, ⟨HBN.out⟩⟩
        case measure => rw [hwi]; exact less_step (by decide) hlt
      · have hie : i = L.length := by omega
        subst hie
        have d2 : decide ((L.length : Int) < (L.length : Int)) = false := decide_eq_false (by omega)
        have HX2 := Lib.hid HX.out
        rw [List.take_length, List.drop_length, List.append_nil] at HX2
        go_wp2
        go_ret2
        have hres : r = L.map dbl := by rw [← HRR.out, if_pos HE.out]
        rw [hres]
        exact ⟨_, by rw [HE.out]; rfl, HX2.out, HQ.out⟩
  · have d1 : (e != 0) = true := by simp [he]
    have HE := Lib.hid he
    obtain ⟨A2, k2, rfl⟩ := Kd.R_slice hr
    clear hr hb he
    go_wp2
    go_ret2
    have hres : r = L := by rw [← HRR.out, if_neg HE.out]
    rw [hres]
    exact ⟨_, rfl, HR.out, HB2.out⟩
def glyf_places.f (a0 : ByteArray) (a1 : Int) (a2 : Bool) : Option (List Int × Int) := if 0 ≤ a1 ∧ a1 ≤ 65535 then some (placesN a0 a1.toNat a2) else none
theorem glyf_places.calls (a0 : ByteArray) (a1 : Int) (a2 : Bool) (r1 : List Int) (r2 : Int) (w : World) (h : glyf_places.f a0 a1 a2 = some (r1, r2)) :
    Calls Try.prog 17 #[.string a0, .int .i64 a1, .bool a2] w fun e w' => ∃ v0_ : Value, e = .returned (.tuple #[v0_, .int .i64 r2]) ∧ Kd.R (Kd.int .i64) 3 w' w.heap.size (fun _ => True) v0_ r1 ∧ Below w.heap.size w w' := by
  unfold glyf_places.f at h
  split at h
  · rename_i hh
    obtain ⟨g, rfl⟩ := Int.eq_ofNat_of_zero_le hh.1
    have hp := Option.some.inj h
    rw [Int.toNat_natCast] at hp
    unfold placesN at hp
    cases a2 with
    | true =>
      rw [if_pos rfl] at hp
      exact places_far a0 g (by omega) w r1 r2 hp
    | false =>
      rw [if_neg Bool.false_ne_true] at hp
      obtain ⟨L, e, hL⟩ : ∃ L e, getN a0 0 (repN [2] (g + 1)) = (L, e) := ⟨_, _, rfl⟩
      have := places_near a0 g (by omega) w L e hL _ rfl
      rw [hL] at hp
      by_cases he : e = 0
      · rw [if_pos he] at hp
        obtain ⟨rfl, rfl⟩ := Prod.mk.inj hp
        rw [if_pos he, he] at this
        exact this
      · rw [if_neg he] at hp
        obtain ⟨rfl, rfl⟩ := Prod.mk.inj hp
        rw [if_neg he] at this
        exact this
  · exact absurd h (by simp)
end Go.Proofs.Ytjmliafplgjkhaa.P
end
