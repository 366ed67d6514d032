/- Words, contracts and plain facts of the proof. Each says its own condition. -/
import Derived.Test.YtejdflndgnpkcaaGreatZCmapDoese
import Derived.Shelf.Strings.Builder1
import Derived.WalkKit
import Derived.Lib.Hide
import Derived.Test.YtejdflndgnpkcaaGreatZCmapDoesl
set_option linter.unusedVariables false
set_option maxRecDepth 100000
set_option linter.unusedSimpArgs false
set_option maxHeartbeats 16000000
section
namespace Go.Proofs.YtejdflndgnpkcaaGreat.P
open Go.RowKit PW PL PM
theorem byteInfo : (Tryz.prog.info? 5).map (fun i => (i.zero, i.size, i.bytes)) = some (some (.int .u8 0), 1, 1) := by kernel_rfl
theorem builderInfo : (Tryz.prog.info? 83).map (·.size) = some 2 := by kernel_rfl
theorem copy_used (b : Nat) (w : World) (h0 : w.cell? ⟨b, 0, none⟩ = some (.pointer (some ⟨b, 0, none⟩))) :
  Calls Tryz.prog 93 #[.pointer (some ⟨b, 0, none⟩)] w fun e w' => e = .returned (.tuple #[]) ∧ w' = w := by
 obtain ⟨j, hj, _⟩ := Option.map_eq_some_iff.1 builderInfo;go_enter Tryz.func93, Tryz.ntmps93;go_wp2;rw [Lib.run_neq_ptr_same w _ Tryz.underlying80 hj];go_wp2;go_end0
 exact ⟨rfl, rfl⟩
theorem copy_fresh (b : Nat) (w : World) (h0 : w.cell? ⟨b, 0, none⟩ = some (.pointer none)) (hsh : w.shape? b = some (83, 2)) (hfz : w.frozen? ⟨b, 0, none⟩ = false) :
  Calls Tryz.prog 93 #[.pointer (some ⟨b, 0, none⟩)] w fun e w' => e = .returned (.tuple #[]) ∧ w' = w.setCell ⟨b, 0, none⟩ (.pointer (some ⟨b, 0, none⟩)) := by
 obtain ⟨j, hj, hjs⟩ := Option.map_eq_some_iff.1 builderInfo;go_enter Tryz.func93, Tryz.ntmps93;go_wp2;rw [Lib.run_to_unsafe w ⟨b, 0, none⟩ Tryz.underlying80 Tryz.underlying135 hj (by rw [hjs]; decide) hsh (Nat.zero_lt_succ 1)];simp only [Result.andThen];rw [Oper.upon_value];go_wp2;rw [run_callFunc_extern Tryz.func116 (by kernel_rfl) (by kernel_rfl) (by kernel_rfl) (e := Extern.AbiNoEscape.same) (by kernel_rfl)];rw [Lib.run_noEscape];simp only [Result.andThen];rw [Oper.upon_value];go_wp2;rw [Lib.run_from_unsafe w ⟨b, 0, none⟩ Tryz.underlying135 Tryz.underlying80 hj hsh (by kernel_rfl)];simp only [Result.andThen];rw [Oper.upon_value];go_wp2;go_end0
 exact ⟨rfl, rfl⟩
theorem copy_calls (B b : Nat) (bs : List Value) (w : World) (h : Lib.IsBuilder 83 5 B b bs w) :
  Calls Tryz.prog 93 #[.pointer (some ⟨b, 0, none⟩)] w fun e w' => e = .returned (.tuple #[]) ∧ (Lib.BuilderAt 83 5 B b (.pointer (some ⟨b, 0, none⟩)) bs w' ∧ Below B w w') := by
 rcases h with h | h
 ·
  refine (copy_fresh b w h.cell0 h.shape h.frozen0).mono ?_;rintro e w' ⟨rfl, rfl⟩;exact ⟨rfl, h.used _, (Below.refl B w).setCell (p := ⟨b, 0, none⟩) h.1 _⟩
 refine (copy_used b w h.cell0).mono ?_;rintro e w' ⟨rfl, rfl⟩;exact ⟨rfl, h, Below.refl B _⟩
theorem writeByte_calls (B b : Nat) (bs : List Value) (c : Int) (w : World) (h : Lib.IsBuilder 83 5 B b bs w) (hlen : bs.length + 1 ≤ 140737488355328) (hBw : B ≤ w.heap.size) :
  Calls Tryz.prog 61 #[.pointer (some ⟨b, 0, none⟩), .int .u8 c] w fun e w' => e = .returned .nilIface ∧ (Lib.BuilderAt 83 5 B b (.pointer (some ⟨b, 0, none⟩)) (bs ++ [.int .u8 c]) w' ∧ Below B w w') := by
 obtain ⟨i0, hi, hz0, hz1, hz2⟩ := info_parts byteInfo;go_enter Tryz.func61, Tryz.ntmps61;go_wp2_with fail
 refine (copy_calls B b bs _ h).mono ?_;rintro e w1 ⟨rfl, h1, hb1⟩;obtain ⟨hB, v, hbk, hown, hne⟩ := h1;have c0 : w1.cell? ⟨b, 0, none⟩ = some (.pointer (some ⟨b, 0, none⟩)) := by rw [Lib.cell_of_heap hbk]; rfl
 have c1 : w1.cell? ⟨b, 1, none⟩ = some v := by rw [Lib.cell_of_heap hbk]; rfl
 go_wp2_with (at_builtin; refine wpList_append_own _ rfl _ _ 81 rfl B 5 i0 (.int .u8 0) 1 1 Tryz.underlying81 hi hz0 hz1 hz2 rfl (by decide) _ _ _ rfl (hown.alloc _) ⟨w1.heap.size, 0, none⟩ 1 1 [.int .u8 c] rfl rfl ?c1 ?c2 ?c3 ?c4 ?c5 ?_)
 case c1 =>
  intro j u hj;match j, hj with
  | 0, hj => simp at hj; subst hj; simp [Addr.add]
 case c2 => intro u hu; simp at hu; subst hu; rfl
 case c3 => unfold maxLen; omega
 case c4 => omega
 case c5 => have := hb1.size; simp; omega
 intro v' w2 hown' hgrow _;have hlt : b < w1.heap.size := blk_lt hbk
 have hb2 : w2.heap[b]? = some (.cells #[.pointer (some ⟨b, 0, none⟩), v] 83 (0, 0)) := by
  rw [hgrow.block b (by simp; omega) (fun e => hne e.symm), Lib.alloc_old w1 _ b hlt];exact hbk
 have d0 : w2.cell? ⟨b, 0, none⟩ = some (.pointer (some ⟨b, 0, none⟩)) := by rw [Lib.cell_of_heap hb2]; rfl
 have d1 : w2.cell? ⟨b, 1, none⟩ = some v := by rw [Lib.cell_of_heap hb2]; rfl
 have f1 : w2.frozen? ⟨b, 1, none⟩ = false := Lib.frozen_of_heap hb2 1
 obtain ⟨g, cap, rfl⟩ : ∃ g cap, v' = .slice (some ⟨g, 0, none⟩) (bs.length + 1) cap := by
  rcases hown'.2 with ⟨_, h0⟩ | ⟨g, cap, cur, hv, _⟩
  · omega
  exact ⟨g, cap, hv⟩
 go_wp2;go_ret;refine ⟨rfl, ?_, ?_⟩
 · exact Lib.BuilderAt.put (T := 83) (e := 5) hB hb2 (bs' := bs ++ [.int .u8 c]) (by simpa using hown') (by decide)
 exact ((hb1.alloc (by have := hb1.size; omega) _).grown hgrow (by have := hb1.size; simp; omega) (fun k hk => (hown.lt k hk).1)).setCell (p := ⟨b, 1, none⟩) hB _
theorem string_calls (B b : Nat) (l : List UInt8) (w : World) (h : Lib.IsBuilder 83 5 B b (Lib.byteCells l) w) (h0 : l ≠ []) :
  Calls Tryz.prog 62 #[.pointer (some ⟨b, 0, none⟩)] w fun e w' => e = .returned (.string ⟨l.toArray⟩) ∧ Below B w w' := by
 obtain ⟨p, hB, v, hbk, hown, hne⟩ : ∃ p, Lib.BuilderAt 83 5 B b p (Lib.byteCells l) w := by
  rcases h with h | h
  · exact ⟨_, h⟩
  exact ⟨_, h⟩
 have hl0 : l.length ≠ 0 := by simpa using h0
 rw [Lib.byteCells_length] at hown
 obtain ⟨g, cap, cur, rfl, hbg, hg, hnc, hcm, hcs, htake⟩ : ∃ g cap cur, v = .slice (some ⟨g, 0, none⟩) l.length cap ∧ B ≤ g ∧ w.heap[g]? = some (.cells cur 5 (0, 0)) ∧ l.length ≤ cap ∧ cap ≤ maxLen ∧ cur.size = cap * 1 ∧ cur.toList.take (l.length * 1) = Lib.byteCells l := by
  rcases hown.2 with ⟨_, hz⟩ | ⟨g, cap, cur, hv, r⟩
  · exact absurd hz hl0
  exact ⟨g, cap, cur, hv, r⟩
 have c1 : w.drew.cell? ⟨b, 1, none⟩ = some (.slice (some ⟨g, 0, none⟩) l.length cap) := by
  have : w.drew.heap[b]? = some (.cells #[p, .slice (some ⟨g, 0, none⟩) l.length cap] 83 (0, 0)) := hbk;rw [Lib.cell_of_heap this]; rfl
 have hSD : (Builtin.unsafeSliceData_ #[81] 115 #[.slice (some ⟨g, 0, none⟩) l.length cap]).run Tryz.prog w.drew = .ok (.pointer (some ⟨g, 0, none⟩)) w.drew :=
  Lib.run_unsafeSliceData_row _ _ _ _ _ _ (by omega)
 have hUS : (Builtin.unsafeString_ #[115, 3] 9 #[.pointer (some ⟨g, 0, none⟩), .int .i64 l.length]).run Tryz.prog w.drew = .ok (.string ⟨l.toArray⟩) (w.drew.freeze ⟨g, 0, none⟩ l.length) := by
  refine Lib.run_unsafeString_row w.drew 115 3 9 5 Tryz.underlying115 (by kernel_rfl) g cur.size (by have hg' : w.drew.heap[g]? = some (.cells cur 5 (0, 0)) := hg; simp [World.shape?, hg']) l h0 (by omega) (by unfold maxLen at hcm; omega) ?_;intro j x hx;exact hown.cells (g := g) rfl j (.int .u8 x.toNat) (by simp [Lib.byteCells, hx])
 go_enter Tryz.func62, Tryz.ntmps62;go_wp2;go_region
 all_goals (go_wp2; go_ret; exact ⟨rfl, Lib.below_freeze (Below.drew (Below.refl B w)) (p := ⟨g, 0, none⟩) hbg _⟩)
theorem string_nil (B b : Nat) (p : Value) (w : World) (hbk : w.heap[b]? = some (.cells #[p, .slice none 0 0] 83 (0, 0))) :
  Calls Tryz.prog 62 #[.pointer (some ⟨b, 0, none⟩)] w fun e w' => e = .returned (.string ⟨#[]⟩) ∧ Below B w w' := by
 have hUS : ∀ (W : World) (q : Option Addr), (Builtin.unsafeString_ #[115, 3] 9 #[.pointer q, .int .i64 0]).run Tryz.prog W = .ok (.string .empty) W := fun W q => Lib.run_unsafeString_none W _ _ _ q
 have c1 : w.drew.cell? ⟨b, 1, none⟩ = some (.slice none 0 0) := by
  have : w.drew.heap[b]? = some (.cells #[p, .slice none 0 0] 83 (0, 0)) := hbk;rw [Lib.cell_of_heap this]; rfl
 have hSD : (Builtin.unsafeSliceData_ #[81] 115 #[.slice none 0 0]).run Tryz.prog w.drew = .ok (.pointer none) w.drew := rfl;go_enter Tryz.func62, Tryz.ntmps62;go_wp2;go_region
 all_goals (go_wp2; go_ret; exact ⟨rfl, Below.drew (Below.refl B w)⟩)
def byteG (l : List S61) (c : Nat) : UInt8 := UInt8.ofNat (lookN l (c : Int) % 256).toNat
def smallB (l : List S61) : List UInt8 := [0, 0, 1, 6, 0, 0] ++ (List.range 256).map (byteG l)
def smallOk (l : List S61) : Bool := (List.range 256).all (fun c => decide (lookN l (c : Int) < 256))
def smallN (l : List S61) : ByteArray × Int :=
 if isL l = false then (⟨#[]⟩, 1)
 else if 256 ≤ (endsN l).2.1 then (⟨#[]⟩, 7)
 else if smallOk l = true then (⟨(smallB l).toArray⟩, 0) else (⟨#[]⟩, 7)
structure ArrW (w : World) (B : Nat) (W : World) (bs : List UInt8) : Prop where
 n : bs.length ≤ 256
 c : ∀ j (h : j < bs.length), W.cell? ⟨B, j, none⟩ = some (.int .u8 (bs[j].toNat : Int))
 z : ∀ j, bs.length ≤ j → j < 256 → W.cell? ⟨B, j, none⟩ = some (.int .u8 0)
 f : ∀ j, W.frozen? ⟨B, j, none⟩ = false
 g : w.heap.size ≤ B
 s : B < W.heap.size
 b : Below w.heap.size w W
theorem ArrW.begins {w W : World} (hb : Below w.heap.size w W) : ArrW w W.heap.size (W.alloc (.cells (Array.replicate 256 (.int .u8 0)) 103)) [] := by
 refine ⟨by simp, fun j h => absurd h (by simp), fun j _ hj => ?_, fun j => ?_, hb.size, by simp, hb.alloc hb.size _⟩
 ·
  have e0 : (W.alloc (.cells (Array.replicate 256 (.int .u8 0)) 103)).heap[W.heap.size]? = some (.cells (Array.replicate 256 (.int .u8 0)) 103 (0, 0)) := (MapKept.heap_alloc W _).1;rw [Lib.cell_of_heap e0, Array.getElem?_replicate, if_pos hj]
 have e0 : (W.alloc (.cells (Array.replicate 256 (.int .u8 0)) 103)).heap[W.heap.size]? = some (.cells (Array.replicate 256 (.int .u8 0)) 103 (0, 0)) := (MapKept.heap_alloc W _).1;exact Lib.frozen_of_heap e0 j
theorem ArrW.below {w W W' : World} {B : Nat} {bs : List UInt8} (h : ArrW w B W bs) (hb : Below W.heap.size W W') : ArrW w B W' bs :=
 ⟨h.n, fun j hj => (hb.cell (p := ⟨B, j, none⟩) h.s).trans (h.c j hj), fun j h1 h2 => (hb.cell (p := ⟨B, j, none⟩) h.s).trans (h.z j h1 h2), fun j => (hb.frozen (p := ⟨B, j, none⟩) h.s).trans (h.f j), h.g, Nat.lt_of_lt_of_le h.s hb.size, below_then h.b h.b.size hb⟩
theorem ArrW.put {w W : World} {B : Nat} {bs : List UInt8} (h : ArrW w B W bs) (x : UInt8) (hn : bs.length < 256) : ArrW w B (W.setCell ⟨B, bs.length, none⟩ (.int .u8 (x.toNat : Int))) (bs ++ [x]) := by
 have hz := h.z bs.length (Nat.le_refl _) hn;have hother : ∀ j, j ≠ bs.length → (W.setCell ⟨B, bs.length, none⟩ (.int .u8 (x.toNat : Int))).cell? ⟨B, j, none⟩ = W.cell? ⟨B, j, none⟩ := fun j hj => World.cell?_setCell_other W _ _ _ (by intro e; injection e with _ e2 _; exact hj e2.symm)
 refine ⟨by simp; omega, fun j hj => ?_, fun j h1 h2 => ?_, fun j => by rw [World.frozen?_setCell]; exact h.f j, h.g, by rw [World.size_setCell]; exact h.s, h.b.setCell (p := ⟨B, bs.length, none⟩) h.g _⟩
 ·
  by_cases he : j = bs.length
  ·
   subst he;rw [World.cell?_setCell_same' W _ _ (by rw [hz]; rfl)];simp
  have hj' : j < bs.length := by simp at hj; omega
  rw [hother j he, h.c j hj', List.getElem_append_left hj']
 simp at h1
 rw [hother j (by omega)];exact h.z j (by omega) h2
theorem small_walk (A0 : Option Addr) (c0 : Nat) (l : List S61) (w : World) (hr0 : Kd.C k61 w A0 l.length l) (hc0 : l.length ≤ c0) (hi : isL l = true) (r : ByteArray × Int) (hr : smallN l = r) :
  Calls Tryz.prog 50 #[.slice A0 l.length c0] w fun e w' => e = .returned (.tuple #[.string r.1, .int .i64 r.2]) ∧ Below w.heap.size w w' := by
 have hz := (zero_of_info (P := Tryz.prog) (t := 103) (v := .agg (Array.replicate 256 (.int .u8 0))) (n := 256) (by kernel_rfl)).1;obtain ⟨a, b, z, he⟩ : ∃ a b z, endsN l = (a, b, z) := ⟨_, _, _, rfl⟩;have H1 := hI (fun W hW => chart_Is.calls A0 c0 l true W (Kd.C_below hr0 hW) hc0 (by unfold chart_Is.f; rw [hi]));have H2 := hI (fun W hW => chart_ends.calls A0 c0 l a b z W (Kd.C_below hr0 hW) hc0 (by unfold chart_ends.f; rw [he]));have HR0 := hI hr0;have HC0 := hI hc0;have hl := (isL_all hi).1;have HL := hI hl;have HR := hI hr;have HE2 := hI (show (endsN l).2.1 = b by rw [he]);have HI := hI hi;clear hr0 hc0 hr he hl hi;by_cases hb : 256 ≤ b
 ·
  have d1 : decide ((256 : Int) ≤ b) = true := decide_eq_true hb
  have hres : r = (⟨#[]⟩, 7) := by
   rw [← HR.out];unfold smallN;rw [HI.out, if_neg (by decide), HE2.out, if_pos hb]
  have HRE := hI hres;clear hb hres;go_enter Tryz.func50, Tryz.ntmps50;go_wp2_with fail
  refine (H1.out _ (Below.refl _ _)).mono ?_;rintro e w1 ⟨rfl, hb⟩;have HB1 := hI hb;clear hb;go_wp2_with fail
  refine (H2.out _ HB1.out).mono ?_;rintro e w2 ⟨rfl, hb⟩;have HB2 := hI (HB1.out.trans (hb.mono HB1.out.size));clear hb;go_wp2;go_ret2;rw [HRE.out];exact ⟨rfl, HB2.out⟩
 have d1 : decide ((256 : Int) ≤ b) = false := decide_eq_false hb;have HB := hI hb;clear hb;go_enter Tryz.func50, Tryz.ntmps50;go_wp2_with fail
 refine (H1.out _ (Below.refl _ _)).mono ?_;rintro e w1 ⟨rfl, hb⟩;have HB1 := hI hb;clear hb;go_wp2_with fail
 refine (H2.out _ HB1.out).mono ?_;rintro e w2 ⟨rfl, hb⟩;have HB2 := hI (HB1.out.trans (hb.mono HB1.out.size));clear hb;go_wp2_with fail
 obtain ⟨w3, hw3⟩ : ∃ w3, w3 = w2.alloc (.cells (Array.replicate 256 (.int .u8 0)) 103) := ⟨_, rfl⟩;have HA0 := hI (show ArrW w w2.heap.size w3 [] by rw [hw3]; exact ArrW.begins HB2.out);obtain ⟨B, hB⟩ : ∃ B, B = w2.heap.size := ⟨_, rfl⟩;rw [← hw3, ← hB];rw [← hB] at HA0;clear hw3 hB;go_loopw [21] (fun v21 wr => ∃ (i : Nat), i ≤ 256 ∧ v21 = .int .i64 (i : Int) ∧ Aside0 (ArrW w B wr ((List.range i).map (byteG l))) ∧ Aside0 (∀ c, c < i → lookN l (c : Int) < 256)) (fun v21 _ => 256 - (intOf v21).toNat)
 case atStart => exact ⟨0, Nat.zero_le _, rfl, ⟨HA0.out⟩, ⟨fun c hc => absurd hc (Nat.not_lt_zero _)⟩⟩
 case round =>
  obtain ⟨i, hi, rfl, HA, HK⟩ := hrel;by_cases hlt : i < 256
  ·
   have d2 : decide ((i : Int) < 256) = true := decide_eq_true (by omega);have d3 : decide (i < 256) = true := decide_eq_true hlt;have hwi : wrap64 ((i : Int) + 1) = ((i + 1 : Nat) : Int) := by unfold wrap64; omega
   have HLT := hI hlt;clear hlt;go_wp2_with fail
   refine (chart_look.calls A0 c0 l (i : Int) (lookN l (i : Int)) _ (Kd.C_below HR0.out HA.out.b) HC0.out (by unfold chart_look.f; rw [if_pos HL.out])).mono ?_;rintro e w4 ⟨rfl, hb⟩;have HA1 := hI (HA.out.below hb);obtain ⟨g, hg⟩ : ∃ g, g = lookN l (i : Int) := ⟨_, rfl⟩;rw [← hg];have HG := hI hg;have hbd := look_bd HI.out (i : Int);rw [← hg] at hbd;clear hb hg;by_cases hge : 256 ≤ g
   ·
    have d4 : decide ((256 : Int) ≤ g) = true := decide_eq_true hge
    have hres : r = (⟨#[]⟩, 7) := by
     rw [← HR.out];unfold smallN;rw [HI.out, if_neg (by decide), HE2.out, if_neg (by have := HB.out; omega), if_neg];intro h;have := List.all_eq_true.1 h i (by rw [List.mem_range]; exact HLT.out);have := of_decide_eq_true this;rw [← HG.out] at this;omega
    have HRE := hI hres;clear hres hge hbd;go_wp2;go_ret2;rw [HRE.out];exact ⟨rfl, HA1.out.b⟩
   have d4 : decide ((256 : Int) ≤ g) = false := decide_eq_false hge
   have hu : ((byteG l i).toNat : Int) = g := by
    unfold byteG;rw [← HG.out];have : g % 256 = g := by omega
    rw [this];simp
    omega
   have hlen : ((List.range i).map (byteG l)).length = i := by simp
   have hc := HA1.out.z i (by rw [hlen]; exact Nat.le_refl _) HLT.out;have hf := HA1.out.f i
   have HA2 := hI (show ArrW w B (w4.setCell ⟨B, i, none⟩ (.int .u8 g)) ((List.range (i + 1)).map (byteG l)) by
    have := HA1.out.put (byteG l i) (by rw [hlen]; exact HLT.out);rw [hlen, hu] at this;rw [List.range_succ, List.map_append];exact this)
   have HK2 := hI (show ∀ c, c < i + 1 → lookN l (c : Int) < 256 from fun c hc => by
    rcases Nat.lt_or_ge c i with h | h
    · exact HK.out c h
    have : c = i := by omega
    subst this;rw [← HG.out]; omega)
   have hu8 : IntKind.u8.wrap g = g := by unfold IntKind.wrap; simp [IntKind.bits, IntKind.signed]; omega
   have q0 : (0 : Int) ≤ (i : Int) := by omega
   have q1 : (i : Int) < 256 := by have := HLT.out; omega
   have hm : g % 256 = g := by omega
   clear hu hlen hge hbd;go_wp2;go_roundw
   case rel => exact ⟨i + 1, HLT.out, by rw [show ((i + 1 : Nat) : Int) = (i : Int) + 1 from by omega], ⟨HA2.out⟩, ⟨HK2.out⟩⟩
   case measure => rw [show (i : Int) + 1 = ((i + 1 : Nat) : Int) from by omega]; exact less_step (by decide) HLT.out
  have hie : i = 256 := by omega
  subst hie;have d2 : decide (((256 : Nat) : Int) < 256) = false := by decide
  have hres : r = (⟨(smallB l).toArray⟩, 0) := by
   rw [← HR.out];unfold smallN;rw [HI.out, if_neg (by decide), HE2.out, if_neg (by have := HB.out; omega), if_pos];rw [smallOk, List.all_eq_true];intro c hc;exact decide_eq_true (HK.out c (List.mem_range.1 hc))
  have HRE := hI hres
  have hcv := run_convert_bytes_back (P := Tryz.prog) wr 81 9 5 ⟨B, 0, none⟩ 256 ((List.range 256).map (byteG l)) Tryz.underlying81 Tryz.underlying5 Tryz.underlying9 (fun j hj => by
   rw [add_plain];exact HA.out.c j hj)
  have hlen : ((List.range 256).map (byteG l)).length = 256 := by simp
  rw [hlen] at hcv;clear hres hlen hlt;obtain ⟨X, hX⟩ : ∃ X : ByteArray, X = ⟨((List.range 256).map (byteG l)).toArray⟩ := ⟨_, rfl⟩;rw [← hX] at hcv;have HX := hI hX;have HBB := hI HA.out.b
  have hsz : (9223372036854775807 < 6 + X.size) = False := eq_false (by
   have : X.size = 256 := by rw [hX]; simp [ByteArray.size]
   omega)
  clear hX HA HK;go_wp2;go_ret2;rw [HRE.out, HX.out];refine ⟨?_, HBB.out⟩;have e0 : (⟨#[0, 0, 1, 6, 0, 0]⟩ : ByteArray) = ⟨([0, 0, 1, 6, 0, 0] : List UInt8).toArray⟩ := rfl
  have e1 : (⟨([0, 0, 1, 6, 0, 0] : List UInt8).toArray⟩ : ByteArray) ++ ⟨((List.range 256).map (byteG l)).toArray⟩ = ⟨(smallB l).toArray⟩ := by
   apply ByteArray.ext
   rw [ByteArray.data_append];unfold smallB;rw [← List.append_toArray]
  rw [e0, e1];rfl
theorem small_arg (A0 : Option Addr) (c0 : Nat) (l : List S61) (w : World) (hr0 : Kd.C k61 w A0 l.length l) (hc0 : l.length ≤ c0) (hi : isL l = false) :
  Calls Tryz.prog 50 #[.slice A0 l.length c0] w fun e w' => e = .returned (.tuple #[.string ⟨#[]⟩, .int .i64 1]) ∧ Below w.heap.size w w' := by
 have H1 := hI (chart_Is.calls A0 c0 l false w hr0 hc0 (by unfold chart_Is.f; rw [hi]));clear hr0 hc0 hi;go_enter Tryz.func50, Tryz.ntmps50;go_wp2_with fail
 refine H1.out.mono ?_;rintro e w1 ⟨rfl, hb⟩;have HB1 := hI hb;clear hb;go_wp2;go_ret2;exact ⟨rfl, HB1.out⟩
def chart_PutSmall.f (l0 : List S61) : Option (ByteArray × Int) := some (smallN l0)
theorem chart_PutSmall.calls (A0 : Option Addr) (c0 : Nat) (l0 : List S61) (r1 : ByteArray) (r2 : Int) (w : World) (hr0 : Kd.C k61 w A0 l0.length l0) (hc0 : l0.length ≤ c0) (h : chart_PutSmall.f l0 = some (r1, r2)) :
  Calls Tryz.prog 50 #[.slice A0 l0.length c0] w fun e w' => e = .returned (.tuple #[.string r1, .int .i64 r2]) ∧ Below w.heap.size w w' := by
 have hr := Option.some.inj h;cases hi : isL l0 with
 | true => exact small_walk A0 c0 l0 w hr0 hc0 hi (r1, r2) hr
 | false =>
  unfold smallN at hr;rw [hi, if_pos rfl] at hr;obtain ⟨rfl, rfl⟩ := Prod.mk.inj hr;exact small_arg A0 c0 l0 w hr0 hc0 hi
attribute [local go_sem] max2_int min2_int max_two min_two max_three min_three max_four min_four
def bin_fits.f (a0 : Int) (a1 : Int) : Option (Bool) := if a1 < 0 then (if 0 ≤ (wrap64 ((wrap64 ((-8) * a1)) - 1)) then (if a0 ≥ (wrap64 (-(shl .i64 1 (wrap64 ((wrap64 ((-8) * a1)) - 1))))) then (some (decide (a0 < (shl .i64 1 (wrap64 ((wrap64 ((-8) * a1)) - 1)))))) else (some false)) else (none)) else (if a0 ≥ 0 then (if 0 ≤ (wrap64 (8 * a1)) then (some (decide (a0 < (shl .i64 1 (wrap64 (8 * a1)))))) else (none)) else (some false))
theorem bin_fits.calls (a0 : Int) (a1 : Int) (r : Bool) (w : World) (h : bin_fits.f a0 a1 = some r) :
  Calls Tryz.prog 60 #[.int .i64 a0, .int .i64 a1] w fun e w' => e = .returned (.bool r) ∧ Drawn0 w w' := by
 have H : (if a1 < 0 then (if 0 ≤ (wrap64 ((wrap64 ((-8) * a1)) - 1)) then (if a0 ≥ (wrap64 (-(shl .i64 1 (wrap64 ((wrap64 ((-8) * a1)) - 1))))) then (some (decide (a0 < (shl .i64 1 (wrap64 ((wrap64 ((-8) * a1)) - 1)))))) else (some false)) else (none)) else (if a0 ≥ 0 then (if 0 ≤ (wrap64 (8 * a1)) then (some (decide (a0 < (shl .i64 1 (wrap64 (8 * a1)))))) else (none)) else (some false))) = some r := h;clear h;replace H := qL H;rcases H with ⟨c3b0, H⟩ | ⟨c3b0, H⟩
 ·
  obtain ⟨ji4, hji4⟩ : ∃ j_ : Int, (wrap64 ((wrap64 ((-8) * a1)) - 1)) = j_ := ⟨_, rfl⟩;replace H : (if 0 ≤ (ji4) then (if a0 ≥ (wrap64 (-(shl .i64 1 (ji4)))) then (some (decide (a0 < (shl .i64 1 (ji4))))) else (some false)) else (none)) = some r := by first | (rw [hji4] at H; exact H) | (simp only [hji4] at H ⊢; exact H)
  have hji4w : (IntKind.i64.wrap ((wrap64 ((-8) * a1)) - 1)) = ji4 := (i64_w _).trans hji4;replace H := nD H;obtain ⟨c5, c5b0, c5b1, H⟩ := H;clear c5;obtain ⟨ji6, hji6⟩ : ∃ j_ : Int, (shl .i64 1 (ji4)) = j_ := ⟨_, rfl⟩;replace H : (if a0 ≥ (wrap64 (-(ji6))) then (some (decide (a0 < (ji6)))) else (some false)) = some r := by first | (rw [hji6] at H; exact H) | (simp only [hji6] at H ⊢; exact H)
  have hji6_ : (IntKind.i64.wrap (1 * 2 ^ min (ji4).toNat 64)) = ji6 := hji6;have hji6z : (ji4) ≤ 64 → (IntKind.i64.wrap (1 * 2 ^ (ji4).toNat)) = ji6 := shl_small hji6;have hji6u : (IntKind.i64.wrap (2 ^ min (ji4).toNat 64)) = ji6 := by have h_ := hji6_; rw [Int.one_mul] at h_; exact h_
  have hji6v : (ji4) ≤ 64 → (IntKind.i64.wrap (2 ^ (ji4).toNat)) = ji6 := fun hle_ => by have h_ := hji6z hle_; rw [Int.one_mul] at h_; exact h_
  have hji6y : (wrap64 (1 * 2 ^ min (ji4).toNat 64)) = ji6 := (i64_w _).symm.trans hji6_;have hji6x : (ji4) ≤ 64 → (wrap64 (1 * 2 ^ (ji4).toNat)) = ji6 := fun h_ => (i64_w _).symm.trans (hji6z h_)
  replace H := qG H;rcases H with ⟨c7b0, H⟩ | ⟨c7b0, H⟩
  ·
   obtain rfl := Option.some.inj H;go_enter Tryz.func60, Tryz.ntmps60;go_wp2;go_ret;exact ⟨by first | rfl | (simp; done) | (simp only [← hji4, ← hji6] <;> (first | rfl | simp)) | (simp [*]; done), by repeat (first | exact Drawn0.refl _ | apply Drawn0.step)⟩
  obtain rfl := Option.some.inj H;go_enter Tryz.func60, Tryz.ntmps60;go_wp2;go_ret;exact ⟨by first | rfl | (simp; done) | (simp only [← hji4, ← hji6] <;> (first | rfl | simp)) | (simp [*]; done), by repeat (first | exact Drawn0.refl _ | apply Drawn0.step)⟩
 replace H := qG H;rcases H with ⟨c8b0, H⟩ | ⟨c8b0, H⟩
 ·
  obtain ⟨ji9, hji9⟩ : ∃ j_ : Int, (wrap64 (8 * a1)) = j_ := ⟨_, rfl⟩;replace H : (if 0 ≤ (ji9) then (some (decide (a0 < (shl .i64 1 (ji9))))) else (none)) = some r := by first | (rw [hji9] at H; exact H) | (simp only [hji9] at H ⊢; exact H)
  have hji9w : (IntKind.i64.wrap (8 * a1)) = ji9 := (i64_w _).trans hji9;replace H := nD H;obtain ⟨c10, c10b0, c10b1, H⟩ := H;clear c10;obtain ⟨ji11, hji11⟩ : ∃ j_ : Int, (shl .i64 1 (ji9)) = j_ := ⟨_, rfl⟩;replace H : (some (decide (a0 < (ji11)))) = some r := by first | (rw [hji11] at H; exact H) | (simp only [hji11] at H ⊢; exact H)
  have hji11_ : (IntKind.i64.wrap (1 * 2 ^ min (ji9).toNat 64)) = ji11 := hji11;have hji11z : (ji9) ≤ 64 → (IntKind.i64.wrap (1 * 2 ^ (ji9).toNat)) = ji11 := shl_small hji11;have hji11u : (IntKind.i64.wrap (2 ^ min (ji9).toNat 64)) = ji11 := by have h_ := hji11_; rw [Int.one_mul] at h_; exact h_
  have hji11v : (ji9) ≤ 64 → (IntKind.i64.wrap (2 ^ (ji9).toNat)) = ji11 := fun hle_ => by have h_ := hji11z hle_; rw [Int.one_mul] at h_; exact h_
  have hji11y : (wrap64 (1 * 2 ^ min (ji9).toNat 64)) = ji11 := (i64_w _).symm.trans hji11_;have hji11x : (ji9) ≤ 64 → (wrap64 (1 * 2 ^ (ji9).toNat)) = ji11 := fun h_ => (i64_w _).symm.trans (hji11z h_)
  obtain rfl := Option.some.inj H;go_enter Tryz.func60, Tryz.ntmps60;go_wp2;go_ret;exact ⟨by first | rfl | (simp; done) | (simp only [← hji9, ← hji11] <;> (first | rfl | simp)) | (simp [*]; done), by repeat (first | exact Drawn0.refl _ | apply Drawn0.step)⟩
 obtain rfl := Option.some.inj H;go_enter Tryz.func60, Tryz.ntmps60;go_wp2;go_ret;exact ⟨by first | rfl | (simp; done) | (simp [*]; done), by repeat (first | exact Drawn0.refl _ | apply Drawn0.step)⟩
end Go.Proofs.YtejdflndgnpkcaaGreat.P
end
