/- hmtx.Put, told plainly: its walk and its contract. No condition. -/
import Derived.Test.YtjbhnohomhnhjaaEHmtxLeast
import Derived.Test.YtjbhnohomhnhjaaEConcat
import Derived.Test.YtjbhnohomhnhjaaEBinPut
namespace Go.Proofs.Ytjbhnohomhnhjaa.P
open Go.RowKit Go.Proofs.YtjbhnohomhnhjaaW.PrintWords Go.Proofs.YtjbhnohomhnhjaaW.PrintLast Go.Proofs.YtjbhnohomhnhjaaW.PrintMore
set_option linter.unusedSimpArgs false
set_option linter.unusedVariables false
/-! ### The plain side -/
theorem leastN_le (l : List S34) (h : 0 < l.length) : 1 ≤ leastN l ∧ leastN l ≤ l.length := by
  unfold leastN
  cases hf : (List.finRange l.length).find? (fun x => decide ((backAt l x.1).f0 ≠ (backAt l 0).f0)) with
  | none => exact ⟨Nat.le_refl _, h⟩
  | some x =>
    have hp := List.find?_some hf
    have hx : x.1 ≠ 0 := fun e => by rw [e] at hp; simp at hp
    have := x.2
    constructor <;> (simp only; omega)
/-- What is written: the widths of the first n, all sides. -/
def rowP (l : List S34) (n : Nat) : Nat → List Int
  | 0 => []
  | i + 1 => rowP l n i ++ (if i < n then [(rd_T34 l (i : Int)).f0, (rd_T34 l (i : Int)).f1] else [(rd_T34 l (i : Int)).f1])
def sizesP (l : List S34) : List Int := repN [2, -2] (leastN l) ++ repN [-2] (l.length - leastN l)
def wideP (l : List S34) : Bool := l.all (fun x => fitsN x.f0 2)
def putM (l : List S34) : ByteArray × Int × Int :=
  if (putN (sizesP l) (rowP l (leastN l) l.length)).2 = 0 then ((putN (sizesP l) (rowP l (leastN l) l.length)).1, (leastN l : Int), 0) else (⟨#[]⟩, 0, (putN (sizesP l) (rowP l (leastN l) l.length)).2)
/-- hmtx.Put, told plainly. -/
def hmtx_Put.f (l : List S34) : Option (ByteArray × Int × Int) :=
  if l.length = 0 ∨ 65535 < l.length then some (⟨#[]⟩, 0, 1) else if wideP l = false then some (⟨#[]⟩, 0, 2) else some (putM l)
theorem rowP_length (l : List S34) (n : Nat) : ∀ i, (rowP l n i).length ≤ 2 * i
  | 0 => Nat.le_refl _
  | i + 1 => by
    have := rowP_length l n i
    rw [rowP, List.length_append]
    split <;> (simp only [List.length_cons, List.length_nil]; omega)
theorem put_one (v : Int) : putN [2] [v] = if fitsN v 2 = true then (⟨(bytesN v 2).toArray⟩, 0) else (⟨#[]⟩, 2) := by
  unfold putN
  rw [if_neg (by rintro (h | h)
                 · exact absurd h (by decide)
                 · exact h rfl)]
  by_cases hf : fitsN v 2 = true
  · simp [puts, hf]
  · simp [puts, hf]
theorem wide_false {l : List S34} {i : Nat} (hi : i < l.length) (h : fitsN (rd_T34 l (i : Int)).f0 2 = false) : wideP l = false := by
  unfold wideP
  rw [List.all_eq_false]
  refine ⟨l[i], List.getElem_mem hi, ?_⟩
  unfold rd_T34 at h
  rw [Int.toNat_natCast, List.getD_eq_getElem?_getD, List.getElem?_eq_getElem hi] at h
  simpa using h
theorem wide_true {l : List S34} (h : ∀ i, i < l.length → fitsN (rd_T34 l (i : Int)).f0 2 = true) : wideP l = true := by
  unfold wideP
  rw [List.all_eq_true]
  intro x hx
  obtain ⟨i, hi, rfl⟩ := List.getElem_of_mem hx
  have := h i hi
  unfold rd_T34 at this
  rw [Int.toNat_natCast, List.getD_eq_getElem?_getD, List.getElem?_eq_getElem hi] at this
  simpa using this
theorem put_begins (wr wa : World) (f0 f1 : Int) (hw : wa = (((wr.alloc (.cells #[.int .i64 f0, .int .i64 f1] 34)).alloc (.cells #[.int .i64 2] 3)).alloc (.cells #[.int .i64 f0] 3))) :
    Kd.C (Kd.int .i64) wa (some ⟨wr.heap.size + 1, 0, none⟩) 1 [2] ∧ Kd.C (Kd.int .i64) wa (some ⟨wr.heap.size + 1 + 1, 0, none⟩) 1 [f0] ∧ wa.cell? ⟨wr.heap.size, 0, none⟩ = some (.int .i64 f0) ∧ wa.cell? ⟨wr.heap.size, 1, none⟩ = some (.int .i64 f1) ∧ Below wr.heap.size wr wa ∧ wa.heap.size = wr.heap.size + 3 := by
  subst hw
  refine ⟨?_, ?_, by simp [go_sem], by simp [go_sem], (((Below.refl _ wr).alloc (Nat.le_refl _) _).alloc (by simp) _).alloc (by simp; omega) _, by simp⟩
  · have := lit_C (wr.alloc (.cells #[.int .i64 f0, .int .i64 f1] 34)) [2] (by decide)
    rw [World.size_alloc] at this
    exact Kd.C_alloc this _
  · have := lit_C ((wr.alloc (.cells #[.int .i64 f0, .int .i64 f1] 34)).alloc (.cells #[.int .i64 2] 3)) [f0] (show 1 ≤ maxLen by decide)
    rw [World.size_alloc, World.size_alloc] at this
    exact this
theorem row_bytes (l : List S34) (n i : Nat) (hi : i ≤ l.length) (hl : l.length ≤ 65535) (k : Nat) (hk : k ≤ 1) : ((rowP l n i).length + k + 1) * 8 ≤ 140737488355328 := by
  have := rowP_length l n i
  omega
set_option maxRecDepth 100000 in
set_option maxHeartbeats 4000000 in
theorem hmtx_put_walk (A0 : Option Addr) (c0 : Nat) (l : List S34) (w : World) (hr0 : Kd.C k34 w A0 l.length l) (hc0 : l.length ≤ c0) (h0 : 0 < l.length) (hre : l.length ≤ 65535) (r : ByteArray × Int × Int) (hr : (if wideP l = false then (⟨#[]⟩, 0, 2) else putM l) = r) :
    Calls Try.prog 8 #[.slice A0 l.length c0] w fun e w' => e = .returned (.tuple #[.string r.1, .int .i64 r.2.1, .int .i64 r.2.2]) ∧ Below w.heap.size w w' := by
  have HR0 := Lib.hid hr0
  have HC0 := Lib.hid hc0
  have HLE := Lib.hid (leastN_le l h0)
  have HRE := Lib.hid hre
  have HH0 := Lib.hid h0
  have HR := Lib.hid hr
  have hz := (zero_of_info (P := Try.prog) (t := 34) (v := .agg #[.int .i64 0, .int .i64 0]) (n := 2) (by kernel_rfl)).1
  have d1 : (l.length == 0) = false := by rw [beq_eq_false_iff_ne]; omega
  have d2 : decide (65535 < l.length) = false := decide_eq_false (by omega)
  have d3 : ((l.length : Int) == 0) = false := by rw [beq_eq_false_iff_ne]; omega
  have d4 : decide ((65535 : Int) < (l.length : Int)) = false := decide_eq_false (by omega)
  clear hr0 hc0 h0 hre hr
  go_enter Try.func8, Try.ntmps8
  go_wp2_with fail
  refine (least_walk A0 c0 l _ HR0.out HC0.out HH0.out HRE.out).mono ?_
  rintro e w1 ⟨rfl, hb⟩
  have HB1 := Lib.hid hb
  clear hb
  obtain ⟨n, hn⟩ : ∃ n, n = leastN l := ⟨_, rfl⟩
  have HN := Lib.hid hn
  rw [← hn] at HLE ⊢
  clear hn
  go_wp2_with fail
  go_loopw [25, 6] (fun v25 v6 wr => ∃ (i : Nat), i ≤ l.length ∧ v25 = .int .i64 (i : Int) ∧ Aside0 (Kd.R (Kd.int .i64) 3 wr w.heap.size (fun _ => True) v6 (rowP l n i)) ∧ Aside0 (∀ j, j < i → fitsN (rd_T34 l (j : Int)).f0 2 = true) ∧ Aside0 (Below w.heap.size w wr)) (fun v25 _ _ => l.length - (intOf v25).toNat)
  case atStart => exact ⟨0, Nat.zero_le _, rfl, ⟨Kd.R_nil _ _ _ _ _⟩, ⟨fun j hj => absurd hj (Nat.not_lt_zero _)⟩, ⟨HB1.out⟩⟩
  case round =>
    obtain ⟨i, hi, rfl, HX, HF, HB⟩ := hrel
    by_cases hlt : i < l.length
    · have q0 : (0 : Int) ≤ (i : Int) := by omega
      have q1 : (i : Int) < (l.length : Int) := by omega
      have d5 : decide ((i : Int) < (l.length : Int)) = true := decide_eq_true q1
      obtain ⟨ad, e, hx0, hx1⟩ := at_T34 (Kd.C_below HR0.out HB.out) (i : Int) q0 q1
      cases e
      simp only [Int.toNat_natCast] at hx0 hx1
      obtain ⟨f0, hf0⟩ : ∃ f0, f0 = (rd_T34 l (i : Int)).f0 := ⟨_, rfl⟩
      obtain ⟨f1, hf1⟩ : ∃ f1, f1 = (rd_T34 l (i : Int)).f1 := ⟨_, rfl⟩
      rw [← hf0] at hx0
      rw [← hf1] at hx1
      have HF0 := Lib.hid hf0
      have HF1 := Lib.hid hf1
      obtain ⟨Av, kv, rfl⟩ := Kd.R_slice HX.out
      clear hf0 hf1
      replace q0 := eq_true q0
      replace q1 := eq_true q1
      go_wp2_with fail
      obtain ⟨wa, hwa⟩ : ∃ wa, wa = (((wr.alloc (.cells #[.int .i64 f0, .int .i64 f1] 34)).alloc (.cells #[.int .i64 2] 3)).alloc (.cells #[.int .i64 f0] 3)) := ⟨_, rfl⟩
      obtain ⟨K1, K2, L0, L1, BA, SA⟩ := put_begins wr wa f0 f1 hwa
      rw [← hwa]
      have HOWN := Lib.hid (show ∀ k, (Value.slice Av (rowP l n i).length kv).ownBlock = some k → k < wr.heap.size from fun k hk => ((Kd.R_bound HX.out).1 k hk).2.2.1)
      have HXA := Lib.hid (Kd.R_below HX.out BA)
      have HBA := Lib.hid (HB.out.trans (BA.mono HB.out.size))
      have HL1 := Lib.hid L1
      have HL0 := Lib.hid L0
      have HSA := Lib.hid (show wr.heap.size < wa.heap.size by rw [SA]; omega)
      have HK1 := Lib.hid K1
      have HK2 := Lib.hid K2
      clear hwa K1 K2 L0 L1 BA SA hx0 hx1
      cases hf : fitsN f0 2 with
      | false =>
        have HRES := Lib.hid (show r = (⟨#[]⟩, 0, 2) by rw [← HR.out, if_pos (wide_false hlt (by rw [← HF0.out]; exact hf))])
        have hput : putN [2] [f0] = (⟨#[]⟩, 2) := by rw [put_one, if_neg (by rw [hf]; decide)]
        have HPUT := Lib.hid hput
        clear hf hput
        refine (bin_Put.calls (some ⟨wr.heap.size + 1, 0, none⟩) 1 [2] (some ⟨wr.heap.size + 1 + 1, 0, none⟩) 1 [f0] ⟨#[]⟩ 2 wa HK1.out (Nat.le_refl _) HK2.out (Nat.le_refl _) (by unfold bin_Put.f; rw [if_pos (by decide), HPUT.out])).mono ?_
        rintro e w2 ⟨rfl, hb⟩
        have HB2 := Lib.hid (HBA.out.trans (hb.mono HBA.out.size))
        clear hb
        go_wp2
        go_ret3
        rw [HRES.out]
        exact ⟨rfl, HB2.out⟩
      | true =>
        have hput : putN [2] [f0] = (⟨(bytesN f0 2).toArray⟩, 0) := by rw [put_one, if_pos hf]
        have HPUT := Lib.hid hput
        have HFF := Lib.hid (show ∀ j, j < i + 1 → fitsN (rd_T34 l (j : Int)).f0 2 = true from fun j hj => by
          rcases Nat.lt_succ_iff_lt_or_eq.1 hj with h | h
          · exact HF.out j h
          · rw [h, ← HF0.out]; exact hf)
        clear hf hput
        refine (bin_Put.calls (some ⟨wr.heap.size + 1, 0, none⟩) 1 [2] (some ⟨wr.heap.size + 1 + 1, 0, none⟩) 1 [f0] _ 0 wa HK1.out (Nat.le_refl _) HK2.out (Nat.le_refl _) (by unfold bin_Put.f; rw [if_pos (by decide), HPUT.out])).mono ?_
        rintro e w2 ⟨rfl, hb⟩
        have HB2 := Lib.hid (HBA.out.trans (hb.mono HBA.out.size))
        have HX2 := Lib.hid (Kd.R_below HXA.out hb)
        have c0 := (hb.cell (p := ⟨wr.heap.size, 0, none⟩) HSA.out).trans HL0.out
        have c1 := (hb.cell (p := ⟨wr.heap.size, 1, none⟩) HSA.out).trans HL1.out
        have HS2 := Lib.hid (show wr.heap.size < w2.heap.size from Nat.lt_of_lt_of_le HSA.out hb.size)
        have HC1 := Lib.hid c1
        have hwi : wrap64 ((i : Int) + 1) = ((i + 1 : Nat) : Int) := by have := HRE.out; unfold wrap64; omega
        have HLA := Lib.hid (row_bytes l n i hi HRE.out 0 (by omega))
        have HLB := Lib.hid (row_bytes l n i hi HRE.out 1 (by omega))
        obtain ⟨xs, hxs⟩ : ∃ xs, xs = rowP l n i := ⟨_, rfl⟩
        have HXS := Lib.hid hxs
        rw [← hxs] at HX2 HLA HLB HOWN ⊢
        clear hb hxs HX HXA
        by_cases hin : i < n
        · have d6 : decide (i < n) = true := decide_eq_true hin
          have d7 : decide ((i : Int) < (n : Int)) = true := decide_eq_true (by omega)
          have HIN := Lib.hid (show rowP l n (i + 1) = xs ++ [f0, f1] by rw [rowP, if_pos hin, HXS.out, HF0.out, HF1.out])
          clear hin
          go_wp2_with (at_builtin; go_loud (refine Kd.R_append (Kd.int .i64) (w0 := w) w.heap.size rfl (.tmp 44) (.tmp 47) 37 3 (.int .i64 0) 8 rfl Try.underlying37 repInfo rfl (by decide) (by decide) _ xs f0 [.int .i64 f0] (fun _ => True) (fun _ => False) rfl rfl rfl (fun _ hk => hk.elim) (fun _ _ => trivial) HX2.out HB2.out HB2.out.size HLA.out ?_))
          intro v1 w3 ho hb hg hat
          obtain ⟨A1, k1, rfl⟩ := Kd.R_slice ho
          have c1 := (cell_of (a := ⟨wr.heap.size, 1, none⟩) (hg.block wr.heap.size HS2.out (fun e => absurd (HOWN.out _ e.symm) (Nat.lt_irrefl _)))).trans HC1.out
          have HO := Lib.hid ho
          have HB3 := Lib.hid hb
          have eL : (xs ++ [f0]).length = xs.length + 1 := by simp
          rw [← eL] at HLB
          clear ho hb hg hat
          go_wp2_with (at_builtin; go_loud (refine Kd.R_append (Kd.int .i64) (w0 := w) w.heap.size rfl (.tmp 49) (.tmp 52) 37 3 (.int .i64 0) 8 rfl Try.underlying37 repInfo rfl (by decide) (by decide) _ (xs ++ [f0]) f1 [.int .i64 f1] (fun _ => True) (fun _ => False) rfl rfl rfl (fun _ hk => hk.elim) (fun _ _ => trivial) HO.out HB3.out HB3.out.size HLB.out ?_))
          intro v2 w4 ho hb hg hat
          obtain ⟨A2, k2, rfl⟩ := Kd.R_slice ho
          have HO2 := Lib.hid ho
          have HB4 := Lib.hid hb
          clear ho hb hg hat
          go_wp2
          go_roundw
          case rel => exact ⟨i + 1, hlt, by rw [hwi], ⟨by rw [HIN.out]; exact HO2.out⟩, ⟨HFF.out⟩, ⟨HB4.out⟩⟩
          case measure => rw [hwi]; exact less_step (by decide) hlt
        · have d6 : decide (i < n) = false := decide_eq_false hin
          have d7 : decide ((i : Int) < (n : Int)) = false := decide_eq_false (by omega)
          have HIN := Lib.hid (show rowP l n (i + 1) = xs ++ [f1] by rw [rowP, if_neg hin, HXS.out, HF1.out])
          clear hin
          go_wp2_with (at_builtin; go_loud (refine Kd.R_append (Kd.int .i64) (w0 := w) w.heap.size rfl (.tmp 49) (.tmp 52) 37 3 (.int .i64 0) 8 rfl Try.underlying37 repInfo rfl (by decide) (by decide) _ xs f1 [.int .i64 f1] (fun _ => True) (fun _ => False) rfl rfl rfl (fun _ hk => hk.elim) (fun _ _ => trivial) HX2.out HB2.out HB2.out.size HLA.out ?_))
          intro v2 w4 ho hb hg hat
          obtain ⟨A2, k2, rfl⟩ := Kd.R_slice ho
          have HO2 := Lib.hid ho
          have HB4 := Lib.hid hb
          clear ho hb hg hat
          go_wp2
          go_roundw
          case rel => exact ⟨i + 1, hlt, by rw [hwi], ⟨by rw [HIN.out]; exact HO2.out⟩, ⟨HFF.out⟩, ⟨HB4.out⟩⟩
          case measure => rw [hwi]; exact less_step (by decide) hlt
    · have hie : i = l.length := by omega
      subst hie
      have d5 : decide ((l.length : Int) < (l.length : Int)) = false := decide_eq_false (by omega)
      obtain ⟨Av, kv, rfl⟩ := Kd.R_slice HX.out
      obtain ⟨_, _, e0, hkv, CV⟩ := Kd.R_reads HX.out
      injection e0 with e1 e2 e3
      subst e1
      subst e3
      have HWD := Lib.hid (wide_true HF.out)
      obtain ⟨rv, hrv⟩ : ∃ rv, rv = rowP l n l.length := ⟨_, rfl⟩
      rw [← hrv] at CV hkv ⊢
      have HRV := Lib.hid hrv
      have HCV := Lib.hid CV
      have HKV := Lib.hid hkv
      clear hrv CV hkv e2 HX HF
      go_wp2_with fail
      obtain ⟨s1, hs1⟩ : ∃ s1, s1 = repN [2, -2] n := ⟨_, rfl⟩
      have HS1 := Lib.hid hs1
      have hf1 : slices_Repeat.f [2, -2] (n : Int) = some s1 := by
        have := HLE.out
        have := HRE.out
        unfold slices_Repeat.f
        rw [if_pos (by refine ⟨by omega, by omega, by decide, ?_⟩; show 2 * (n : Int).toNat ≤ _; omega), Int.toNat_natCast, hs1]
      refine (hmtx_sizes.calls (n : Int) _ 2 [2, -2] s1 _ (lit_C wr [2, -2] (by decide)) (by decide) hf1).mono ?_
      clear hf1 hs1
      rintro e w2 ⟨v, rfl, hr, hb⟩
      obtain ⟨A1, k1, rfl⟩ := Kd.R_slice hr
      obtain ⟨_, _, e0, hk1, C1⟩ := Kd.R_reads hr
      injection e0 with e1 e2 e3
      subst e1
      subst e3
      have hb2 : Below wr.heap.size wr w2 := ((Below.refl _ wr).alloc (Nat.le_refl _) _).trans (hb.mono (by simp))
      have HB2 := Lib.hid (HB.out.trans (hb2.mono HB.out.size))
      have HCV2 := Lib.hid (Kd.C_below HCV.out hb2)
      have HC1 := Lib.hid C1
      clear hr hb hk1 C1 e2 hb2
      obtain ⟨m, hm⟩ : ∃ m, m = l.length - n := ⟨_, rfl⟩
      have hwm : wrap64 ((l.length : Int) - (n : Int)) = (m : Int) := by have := HLE.out; have := HRE.out; unfold wrap64; omega
      have HM := Lib.hid hm
      clear hm
      go_wp2_with fail
      obtain ⟨s2, hs2⟩ : ∃ s2, s2 = repN [-2] m := ⟨_, rfl⟩
      have HS2 := Lib.hid hs2
      have hf2 : slices_Repeat.f [-2] (m : Int) = some s2 := by
        have := HM.out
        have := HRE.out
        unfold slices_Repeat.f
        rw [if_pos (by refine ⟨by omega, by omega, by decide, ?_⟩; show 1 * (m : Int).toNat ≤ _; omega), Int.toNat_natCast, hs2]
      refine (hmtx_sizes.calls (m : Int) _ 1 [-2] s2 _ (lit_C w2 [-2] (by decide)) (by decide) hf2).mono ?_
      clear hf2 hs2
      rintro e w3 ⟨v, rfl, hr, hb⟩
      obtain ⟨A2, k2, rfl⟩ := Kd.R_slice hr
      obtain ⟨_, _, e0, hk2, C2⟩ := Kd.R_reads hr
      injection e0 with e1 e2 e3
      subst e1
      subst e3
      have hb3 : Below w2.heap.size w2 w3 := ((Below.refl _ w2).alloc (Nat.le_refl _) _).trans (hb.mono (by simp))
      have hb4 : Below w3.heap.size w3 (w3.alloc (.cells #[.slice A1 s1.length k1, .slice A2 s2.length k2] 37)) := (Below.refl _ w3).alloc (Nat.le_refl _) _
      have HB3 := Lib.hid ((HB2.out.trans (hb3.mono HB2.out.size)).trans (hb4.mono (Nat.le_trans HB2.out.size hb3.size)))
      have HCV3 := Lib.hid (Kd.C_below (Kd.C_below HCV2.out hb3) hb4)
      have HC13 := Lib.hid (Kd.C_below (Kd.C_below HC1.out hb3) hb4)
      have HC23 := Lib.hid (Kd.C_below C2 hb4)
      clear hr hb hk2 C2 e2 hb3 hb4
      have hlen : s1.length + s2.length ≤ 17592186044416 := by
        have := HM.out
        have := HLE.out
        have := HRE.out
        rw [HS1.out, HS2.out, repN_length, repN_length]
        show 2 * n + 1 * m ≤ _
        omega
      have HLN := Lib.hid hlen
      clear hlen
      go_wp2_with fail
      refine (concat_walk A1 A2 k1 k2 2 s1 s2 w3.heap.size _ (by simp [go_sem]) (by simp [go_sem]) HC13.out HC23.out HLN.out).mono ?_
      rintro e w4 ⟨v, rfl, hr, hb⟩
      obtain ⟨A4, k4, rfl⟩ := Kd.R_slice hr
      obtain ⟨_, _, e0, hk4, C4⟩ := Kd.R_reads hr
      injection e0 with e1 e2 e3
      subst e1
      subst e3
      obtain ⟨sz, hsz⟩ : ∃ sz, sz = s1 ++ s2 := ⟨_, rfl⟩
      rw [← hsz] at C4 hk4 ⊢
      have HSZ := Lib.hid (show sz = sizesP l by rw [hsz, HS1.out, HS2.out, HM.out, HN.out]; rfl)
      have HSL := Lib.hid (show sz.length < 17592186044416 by
        have := HM.out
        have := HLE.out
        have := HRE.out
        rw [hsz, List.length_append, HS1.out, HS2.out, repN_length, repN_length]
        show 2 * n + 1 * m < _
        omega)
      have HB4 := Lib.hid (HB3.out.trans (hb.mono HB3.out.size))
      have HCV4 := Lib.hid (Kd.C_below HCV3.out hb)
      have HC4 := Lib.hid C4
      have HK4 := Lib.hid hk4
      clear hr hb C4 hk4 e2 hsz
      go_wp2_with fail
      obtain ⟨p1, p2, hp⟩ : ∃ p1 p2, putN sz rv = (p1, p2) := ⟨_, _, rfl⟩
      have HP := Lib.hid hp
      refine (bin_Put.calls A4 k4 sz Av kv rv p1 p2 w4 HC4.out HK4.out HCV4.out HKV.out (by unfold bin_Put.f; rw [if_pos HSL.out, hp])).mono ?_
      clear hp
      rintro e w5 ⟨rfl, hb⟩
      have HB5 := Lib.hid (HB4.out.trans (hb.mono HB4.out.size))
      clear hb
      have hres : r = putM l := by rw [← HR.out, if_neg (by rw [HWD.out]; decide)]
      have hpm : putN (sizesP l) (rowP l (leastN l) l.length) = (p1, p2) := by rw [← HSZ.out, ← HN.out, ← HRV.out]; exact HP.out
      have HRES := Lib.hid hres
      have HPM := Lib.hid hpm
      clear hres hpm
      by_cases hp0 : p2 = 0
      · have d8 : (p2 != 0) = false := by simp [hp0]
        have HP0 := Lib.hid hp0
        clear hp0
        go_wp2
        go_ret3
        rw [HRES.out]
        unfold putM
        rw [HPM.out, if_pos HP0.out, HN.out]
        exact ⟨rfl, HB5.out⟩
      · have d8 : (p2 != 0) = true := by simp [hp0]
        have HP0 := Lib.hid hp0
        clear hp0
        go_wp2
        go_ret3
        rw [HRES.out]
        unfold putM
        rw [HPM.out, if_neg HP0.out]
        exact ⟨rfl, HB5.out⟩
set_option maxHeartbeats 2000000 in
theorem hmtx_put_arg (A0 : Option Addr) (c0 : Nat) (l : List S34) (w : World) (h : l.length = 0 ∨ 65535 < l.length) :
    Calls Try.prog 8 #[.slice A0 l.length c0] w fun e w' => e = .returned (.tuple #[.string ⟨#[]⟩, .int .i64 0, .int .i64 1]) ∧ Below w.heap.size w w' := by
  by_cases h1 : l.length = 0
  · have d3 : ((l.length : Int) == 0) = true := by rw [h1]; rfl
    have d1 : (l.length == 0) = true := by rw [h1]; rfl
    clear h h1
    go_enter Try.func8, Try.ntmps8
    go_wp2
    go_ret3
    exact ⟨rfl, Below.refl _ _⟩
  · have d1 : (l.length == 0) = false := by rw [beq_eq_false_iff_ne]; exact h1
    have d2 : decide (65535 < l.length) = true := decide_eq_true (by omega)
    have d3 : ((l.length : Int) == 0) = false := by rw [beq_eq_false_iff_ne]; omega
    have d4 : decide ((65535 : Int) < (l.length : Int)) = true := decide_eq_true (by omega)
    clear h h1
    go_enter Try.func8, Try.ntmps8
    go_wp2
    go_ret3
    exact ⟨rfl, Below.refl _ _⟩
theorem hmtx_Put.calls (A0 : Option Addr) (c0 : Nat) (l0 : List S34) (r1 : ByteArray) (r2 : Int) (r3 : Int) (w : World) (hr0 : Kd.C k34 w A0 l0.length l0) (hc0 : l0.length ≤ c0) (h : hmtx_Put.f l0 = some (r1, r2, r3)) :
    Calls Try.prog 8 #[.slice A0 l0.length c0] w fun e w' => e = .returned (.tuple #[.string r1, .int .i64 r2, .int .i64 r3]) ∧ Below w.heap.size w w' := by
  unfold hmtx_Put.f at h
  split at h
  · rename_i hb
    have := Option.some.inj h
    simp only [Prod.mk.injEq] at this
    obtain ⟨rfl, rfl, rfl⟩ := this
    exact hmtx_put_arg A0 c0 l0 w hb
  · rename_i hb
    exact hmtx_put_walk A0 c0 l0 w hr0 hc0 (by omega) (by omega) (r1, r2, r3) (by
      split at h
      · rename_i hw
        rw [if_pos hw]; exact Option.some.inj h
      · rename_i hw
        rw [if_neg hw]; exact Option.some.inj h)
end Go.Proofs.Ytjbhnohomhnhjaa.P
