/- A part of the proof of the law ChartOnly: the words, contracts and plain facts that it needs, no more. Each says its own condition. -/
import Derived.Test.YtgifenlfklbdgaaZChartOnlyt
import Derived.Test.YtgifenlfklbdgaaZChartOnlyu
namespace Go.Proofs.Ytgifenlfklbdgaa.P
open Go.RowKit Go.Proofs.YtgifenlfklbdgaaW.PrintWords Go.Proofs.YtgifenlfklbdgaaW.PrintLast Go.Proofs.YtgifenlfklbdgaaW.PrintMore
set_option linter.unusedSimpArgs false
set_option linter.unusedVariables false
def byteG (l : List S42) (c : Nat) : UInt8 := UInt8.ofNat (lookN l (c : Int) % 256).toNat
def smallB (l : List S42) : List UInt8 := [0, 0, 1, 6, 0, 0] ++ (List.range 256).map (byteG l)
def smallOk (l : List S42) : Bool := (List.range 256).all (fun c => decide (lookN l (c : Int) < 256))
def smallN (l : List S42) : ByteArray × Int :=
  if isL l = false then (⟨#[]⟩, 1)
  else if 256 ≤ (endsN l).2.1 then (⟨#[]⟩, 7)
  else if smallOk l = true then (⟨(smallB l).toArray⟩, 0) else (⟨#[]⟩, 7)
structure ArrW (w : World) (B : Nat) (W : World) (bs : List UInt8) : Prop where
  n : bs.length ≤ 256
  c : ∀ j (h : j < bs.length), W.cell? ⟨B, j, none⟩ = some (.int .u8 (bs[j].toNat : Int))
  z : ∀ j, bs.length ≤ j → j < 256 → W.cell? ⟨B, j, none⟩ = some (.int .u8 0)
  f : ∀ j, W.frozen? ⟨B, j, none⟩ = false
  g : w.heap.size ≤ B
  s : B < W.heap.size
  b : Below w.heap.size w W
theorem ArrW.begins {w W : World} (hb : Below w.heap.size w W) : ArrW w W.heap.size (W.alloc (.cells (Array.replicate 256 (.int .u8 0)) 100)) [] := by
  refine ⟨by simp, fun j h => absurd h (by simp), fun j _ hj => ?_, fun j => ?_, hb.size, by simp, hb.alloc hb.size _⟩
  · have e0 : (W.alloc (.cells (Array.replicate 256 (.int .u8 0)) 100)).heap[W.heap.size]? = some (.cells (Array.replicate 256 (.int .u8 0)) 100 (0, 0)) := (MapKept.heap_alloc W _).1
    rw [Lib.cell_of_heap e0, Array.getElem?_replicate, if_pos hj]
  · have e0 : (W.alloc (.cells (Array.replicate 256 (.int .u8 0)) 100)).heap[W.heap.size]? = some (.cells (Array.replicate 256 (.int .u8 0)) 100 (0, 0)) := (MapKept.heap_alloc W _).1
    exact Lib.frozen_of_heap e0 j
theorem ArrW.below {w W W' : World} {B : Nat} {bs : List UInt8} (h : ArrW w B W bs) (hb : Below W.heap.size W W') : ArrW w B W' bs :=
  ⟨h.n, fun j hj => (hb.cell (p := ⟨B, j, none⟩) h.s).trans (h.c j hj), fun j h1 h2 => (hb.cell (p := ⟨B, j, none⟩) h.s).trans (h.z j h1 h2), fun j => (hb.frozen (p := ⟨B, j, none⟩) h.s).trans (h.f j), h.g, Nat.lt_of_lt_of_le h.s hb.size, below_then h.b h.b.size hb⟩
theorem ArrW.put {w W : World} {B : Nat} {bs : List UInt8} (h : ArrW w B W bs) (x : UInt8) (hn : bs.length < 256) : ArrW w B (W.setCell ⟨B, bs.length, none⟩ (.int .u8 (x.toNat : Int))) (bs ++ [x]) := by
  have hz := h.z bs.length (Nat.le_refl _) hn
  have hother : ∀ j, j ≠ bs.length → (W.setCell ⟨B, bs.length, none⟩ (.int .u8 (x.toNat : Int))).cell? ⟨B, j, none⟩ = W.cell? ⟨B, j, none⟩ := fun j hj => World.cell?_setCell_other W _ _ _ (by intro e; injection e with _ e2 _; exact hj e2.symm)
  refine ⟨by simp; omega, fun j hj => ?_, fun j h1 h2 => ?_, fun j => by rw [World.frozen?_setCell]; exact h.f j, h.g, by rw [World.size_setCell]; exact h.s, h.b.setCell (p := ⟨B, bs.length, none⟩) h.g _⟩
  · by_cases he : j = bs.length
    · subst he
      rw [World.cell?_setCell_same' W _ _ (by rw [hz]; rfl)]
      simp
    · have hj' : j < bs.length := by simp at hj; omega
      rw [hother j he, h.c j hj', List.getElem_append_left hj']
  · simp at h1
    rw [hother j (by omega)]
    exact h.z j (by omega) h2
set_option maxRecDepth 100000 in
set_option maxHeartbeats 4000000 in
theorem small_walk (A0 : Option Addr) (c0 : Nat) (l : List S42) (w : World) (hr0 : Kd.C k42 w A0 l.length l) (hc0 : l.length ≤ c0) (hi : isL l = true) (r : ByteArray × Int) (hr : smallN l = r) :
    Calls Try.prog 41 #[.slice A0 l.length c0] w fun e w' => e = .returned (.tuple #[.string r.1, .int .i64 r.2]) ∧ Below w.heap.size w w' := by
  have hz := (zero_of_info (P := Try.prog) (t := 100) (v := .agg (Array.replicate 256 (.int .u8 0))) (n := 256) (by kernel_rfl)).1
  obtain ⟨a, b, z, he⟩ : ∃ a b z, endsN l = (a, b, z) := ⟨_, _, _, rfl⟩
  have H1 := Lib.hid (fun W hW => chart_Is.calls A0 c0 l true W (Kd.C_below hr0 hW) hc0 (by unfold chart_Is.f; rw [hi]))
  have H2 := Lib.hid (fun W hW => chart_ends.calls A0 c0 l a b z W (Kd.C_below hr0 hW) hc0 (by unfold chart_ends.f; rw [he]))
  have HR0 := Lib.hid hr0
  have HC0 := Lib.hid hc0
  have hl := (isL_all hi).1
  have HL := Lib.hid hl
  have HR := Lib.hid hr
  have HE2 := Lib.hid (show (endsN l).2.1 = b by rw [he])
  have HI := Lib.hid hi
  clear hr0 hc0 hr he hl hi
  by_cases hb : 256 ≤ b
  · have d1 : decide ((256 : Int) ≤ b) = true := decide_eq_true hb
    have hres : r = (⟨#[]⟩, 7) := by
      rw [← HR.out]
      unfold smallN
      rw [HI.out, if_neg (by decide), HE2.out, if_pos hb]
    have HRE := Lib.hid hres
    clear hb hres
    go_enter Try.func41, Try.ntmps41
    go_wp2_with fail
    refine (H1.out _ (Below.refl _ _)).mono ?_
    rintro e w1 ⟨rfl, hb⟩
    have HB1 := Lib.hid hb
    clear hb
    go_wp2_with fail
    refine (H2.out _ HB1.out).mono ?_
    rintro e w2 ⟨rfl, hb⟩
    have HB2 := Lib.hid (HB1.out.trans (hb.mono HB1.out.size))
    clear hb
    go_wp2
    go_ret2
    rw [HRE.out]
    exact ⟨rfl, HB2.out⟩
  · have d1 : decide ((256 : Int) ≤ b) = false := decide_eq_false hb
    have HB := Lib.hid hb
    clear hb
    go_enter Try.func41, Try.ntmps41
    go_wp2_with fail
    refine (H1.out _ (Below.refl _ _)).mono ?_
    rintro e w1 ⟨rfl, hb⟩
    have HB1 := Lib.hid hb
    clear hb
    go_wp2_with fail
    refine (H2.out _ HB1.out).mono ?_
    rintro e w2 ⟨rfl, hb⟩
    have HB2 := Lib.hid (HB1.out.trans (hb.mono HB1.out.size))
    clear hb
    go_wp2_with fail
    obtain ⟨w3, hw3⟩ : ∃ w3, w3 = w2.alloc (.cells (Array.replicate 256 (.int .u8 0)) 100) := ⟨_, rfl⟩
    have HA0 := Lib.hid (show ArrW w w2.heap.size w3 [] by rw [hw3]; exact ArrW.begins HB2.out)
    obtain ⟨B, hB⟩ : ∃ B, B = w2.heap.size := ⟨_, rfl⟩
    rw [← hw3, ← hB]
    rw [← hB] at HA0
    clear hw3 hB
    go_loopw [21] (fun v21 wr => ∃ (i : Nat), i ≤ 256 ∧ v21 = .int .i64 (i : Int) ∧ Aside0 (ArrW w B wr ((List.range i).map (byteG l))) ∧ Aside0 (∀ c, c < i → lookN l (c : Int) < 256)) (fun v21 _ => 256 - (intOf v21).toNat)
    case atStart => exact ⟨0, Nat.zero_le _, rfl, ⟨HA0.out⟩, ⟨fun c hc => absurd hc (Nat.not_lt_zero _)⟩⟩
    case round =>
      obtain ⟨i, hi, rfl, HA, HK⟩ := hrel
      by_cases hlt : i < 256
      · have d2 : decide ((i : Int) < 256) = true := decide_eq_true (by omega)
        have d3 : decide (i < 256) = true := decide_eq_true hlt
        have hwi : wrap64 ((i : Int) + 1) = ((i + 1 : Nat) : Int) := by unfold wrap64; omega
        have HLT := Lib.hid hlt
        clear hlt
        go_wp2_with fail
        refine (chart_look.calls A0 c0 l (i : Int) (lookN l (i : Int)) _ (Kd.C_below HR0.out HA.out.b) HC0.out (by unfold chart_look.f; rw [if_pos HL.out])).mono ?_
        rintro e w4 ⟨rfl, hb⟩
        have HA1 := Lib.hid (HA.out.below hb)
        obtain ⟨g, hg⟩ : ∃ g, g = lookN l (i : Int) := ⟨_, rfl⟩
        rw [← hg]
        have HG := Lib.hid hg
        have hbd := look_bd HI.out (i : Int)
        rw [← hg] at hbd
        clear hb hg
        by_cases hge : 256 ≤ g
        · have d4 : decide ((256 : Int) ≤ g) = true := decide_eq_true hge
          have hres : r = (⟨#[]⟩, 7) := by
            rw [← HR.out]
            unfold smallN
            rw [HI.out, if_neg (by decide), HE2.out, if_neg (by have := HB.out; omega), if_neg]
            intro h
            have := List.all_eq_true.1 h i (by rw [List.mem_range]; exact HLT.out)
            have := of_decide_eq_true this
            rw [← HG.out] at this
            omega
          have HRE := Lib.hid hres
          clear hres hge hbd
          go_wp2
          go_ret2
          rw [HRE.out]
          exact ⟨rfl, HA1.out.b⟩
        · have d4 : decide ((256 : Int) ≤ g) = false := decide_eq_false hge
          have hu : ((byteG l i).toNat : Int) = g := by
            unfold byteG
            rw [← HG.out]
            have : g % 256 = g := by omega
            rw [this]
            simp
            omega
          have hlen : ((List.range i).map (byteG l)).length = i := by simp
          have hc := HA1.out.z i (by rw [hlen]; exact Nat.le_refl _) HLT.out
          have hf := HA1.out.f i
          have HA2 := Lib.hid (show ArrW w B (w4.setCell ⟨B, i, none⟩ (.int .u8 g)) ((List.range (i + 1)).map (byteG l)) by
            have := HA1.out.put (byteG l i) (by rw [hlen]; exact HLT.out)
            rw [hlen, hu] at this
            rw [List.range_succ, List.map_append]
            exact this)
          have HK2 := Lib.hid (show ∀ c, c < i + 1 → lookN l (c : Int) < 256 from fun c hc => by
            rcases Nat.lt_or_ge c i with h | h
            · exact HK.out c h
            · have : c = i := by omega
              subst this
              rw [← HG.out]; omega)
          have hu8 : IntKind.u8.wrap g = g := by unfold IntKind.wrap; simp [IntKind.bits, IntKind.signed]; omega
          have q0 : (0 : Int) ≤ (i : Int) := by omega
          have q1 : (i : Int) < 256 := by have := HLT.out; omega
          have hm : g % 256 = g := by omega
          clear hu hlen hge hbd
          go_wp2
          go_roundw
          case rel => exact ⟨i + 1, HLT.out, by rw [show ((i + 1 : Nat) : Int) = (i : Int) + 1 from by omega], ⟨HA2.out⟩, ⟨HK2.out⟩⟩
          case measure => rw [show (i : Int) + 1 = ((i + 1 : Nat) : Int) from by omega]; exact less_step (by decide) HLT.out
      · have hie : i = 256 := by omega
        subst hie
        have d2 : decide (((256 : Nat) : Int) < 256) = false := by decide
        have hres : r = (⟨(smallB l).toArray⟩, 0) := by
          rw [← HR.out]
          unfold smallN
          rw [HI.out, if_neg (by decide), HE2.out, if_neg (by have := HB.out; omega), if_pos]
          rw [smallOk, List.all_eq_true]
          intro c hc
          exact decide_eq_true (HK.out c (List.mem_range.1 hc))
        have HRE := Lib.hid hres
        have hcv := run_convert_bytes_back (P := Try.prog) wr 76 9 5 ⟨B, 0, none⟩ 256 ((List.range 256).map (byteG l)) Try.underlying76 Try.underlying5 Try.underlying9 (fun j hj => by
          rw [add_plain]
          exact HA.out.c j hj)
        have hlen : ((List.range 256).map (byteG l)).length = 256 := by simp
        rw [hlen] at hcv
        clear hres hlen hlt
        obtain ⟨X, hX⟩ : ∃ X : ByteArray, X = ⟨((List.range 256).map (byteG l)).toArray⟩ := ⟨_, rfl⟩
        rw [← hX] at hcv
        have HX := Lib.hid hX
        have HBB := Lib.hid HA.out.b
        have hsz : (9223372036854775807 < 6 + X.size) = False := eq_false (by
          have : X.size = 256 := by rw [hX]; simp [ByteArray.size]
          omega)
        clear hX HA HK
        go_wp2
        go_ret2
        rw [HRE.out, HX.out]
        refine ⟨?_, HBB.out⟩
        have e0 : (⟨#[0, 0, 1, 6, 0, 0]⟩ : ByteArray) = ⟨([0, 0, 1, 6, 0, 0] : List UInt8).toArray⟩ := rfl
        have e1 : (⟨([0, 0, 1, 6, 0, 0] : List UInt8).toArray⟩ : ByteArray) ++ ⟨((List.range 256).map (byteG l)).toArray⟩ = ⟨(smallB l).toArray⟩ := by
          apply ByteArray.ext
          rw [ByteArray.data_append]
          unfold smallB
          rw [← List.append_toArray]
        rw [e0, e1]
        rfl
theorem small_arg (A0 : Option Addr) (c0 : Nat) (l : List S42) (w : World) (hr0 : Kd.C k42 w A0 l.length l) (hc0 : l.length ≤ c0) (hi : isL l = false) :
    Calls Try.prog 41 #[.slice A0 l.length c0] w fun e w' => e = .returned (.tuple #[.string ⟨#[]⟩, .int .i64 1]) ∧ Below w.heap.size w w' := by
  have H1 := Lib.hid (chart_Is.calls A0 c0 l false w hr0 hc0 (by unfold chart_Is.f; rw [hi]))
  clear hr0 hc0 hi
  go_enter Try.func41, Try.ntmps41
  go_wp2_with fail
  refine H1.out.mono ?_
  rintro e w1 ⟨rfl, hb⟩
  have HB1 := Lib.hid hb
  clear hb
  go_wp2
  go_ret2
  exact ⟨rfl, HB1.out⟩
def chart_PutSmall.f (l0 : List S42) : Option (ByteArray × Int) := some (smallN l0)
theorem chart_PutSmall.calls (A0 : Option Addr) (c0 : Nat) (l0 : List S42) (r1 : ByteArray) (r2 : Int) (w : World) (hr0 : Kd.C k42 w A0 l0.length l0) (hc0 : l0.length ≤ c0) (h : chart_PutSmall.f l0 = some (r1, r2)) :
    Calls Try.prog 41 #[.slice A0 l0.length c0] w fun e w' => e = .returned (.tuple #[.string r1, .int .i64 r2]) ∧ Below w.heap.size w w' := by
  have hr := Option.some.inj h
  cases hi : isL l0 with
  | true => exact small_walk A0 c0 l0 w hr0 hc0 hi (r1, r2) hr
  | false =>
    unfold smallN at hr
    rw [hi, if_pos rfl] at hr
    obtain ⟨rfl, rfl⟩ := Prod.mk.inj hr
    exact small_arg A0 c0 l0 w hr0 hc0 hi
end Go.Proofs.Ytgifenlfklbdgaa.P
