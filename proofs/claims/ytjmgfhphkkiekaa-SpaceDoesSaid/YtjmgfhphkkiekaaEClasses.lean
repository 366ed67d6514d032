/- The contract of space.Classes: it answers as the plain function classesN says, in memory of its own. No condition but that the row is shorter than memory is long. -/
import Derived.Test.YtjmgfhphkkiekaaP0
import Derived.Test.YtjmgfhphkkiekaaPFSpaceAtom
import Derived.Test.YtjmgfhphkkiekaaPFSpaceEnds
import Derived.Test.YtjmgfhphkkiekaaEClone
import Derived.Test.YtjmgfhphkkiekaaERow
import Derived.WalkKit
import Derived.WalkLawsBesides
import Derived.Lib.Hide
namespace Go.Proofs.Ytjmgfhphkkiekaa.P
open Go.RowKit Go.Proofs.YtjmgfhphkkiekaaW.PrintWords Go.Proofs.YtjmgfhphkkiekaaW.PrintLast Go.Proofs.YtjmgfhphkkiekaaW.PrintMore

/-! ### The plain side -/
def isAt (a : Int) : Bool := decide (0 ≤ a ∧ a ≤ 7)
def isEnd (c : Int) : Bool := decide (c = -1 ∨ c = 1 ∨ c = 2 ∨ c = 3 ∨ c = 4 ∨ c = 6)
theorem at_is (a : Int) (b : Bool) (h : isAt a = b) : space_atom.f a = some b := by
  subst h
  unfold space_atom.f isAt
  split
  · rw [Option.some.injEq, decide_eq_decide]; omega
  · symm; rw [Option.some.injEq]; exact decide_eq_false (by omega)
theorem end_is (c : Int) (b : Bool) (h : isEnd c = b) : space_ends.f 1 c = some b := by
  subst h
  unfold space_ends.f
  by_cases h1 : c = -1
  · rw [if_pos h1]; symm; rw [Option.some.injEq]; exact decide_eq_true (by omega)
  rw [if_neg h1]
  have j1 : ∀ x, space_ends.j0 1 c x = if x = true then some true else if c = 3 then some true else if c = 4 then some true else if c = 6 then some true else some false := fun x => by simp only [space_ends.j0]
  rw [j1, j1]
  unfold isEnd
  by_cases h2 : c = 1
  · rw [if_pos h2]; simp [h2]
  rw [if_neg h2]
  by_cases h3 : c = 2
  · simp [h3]
  rw [if_neg (by simpa using h3)]
  by_cases h4 : c = 3
  · rw [if_pos h4]; simp [h4]
  rw [if_neg h4]
  by_cases h5 : c = 4
  · rw [if_pos h5]; simp [h5]
  rw [if_neg h5]
  by_cases h6 : c = 6
  · rw [if_pos h6]; simp [h6]
  rw [if_neg h6]; symm; rw [Option.some.injEq]; exact decide_eq_false (by omega)
/-- The row as it is by now, the class of the last atom (-1: none), and its place. -/
structure ClSt where
  out : List Int
  last : Int
  at_ : Nat
def clStep (s : ClSt) (i : Nat) : ClSt :=
  if isAt (s.out.getD i 0) = true then
    (if s.out.getD i 0 = 2 ∧ isEnd s.last = true then ⟨s.out.set i 0, 0, i⟩
     else if s.last = 2 ∧ (s.out.getD i 0 = 3 ∨ s.out.getD i 0 = 5 ∨ s.out.getD i 0 = 6) then ⟨s.out.set s.at_ 0, (s.out.set s.at_ 0).getD i 0, i⟩
     else ⟨s.out, s.out.getD i 0, i⟩)
  else s
def clAt (l : List Int) : Nat → ClSt
  | 0 => ⟨l, -1, 0⟩
  | k + 1 => clStep (clAt l k) k
def clEnd (s : ClSt) : List Int := if s.last = 2 then s.out.set s.at_ 0 else s.out
def classesN (l : List Int) : List Int := clEnd (clAt l l.length)

theorem cl_skip {l : List Int} {k : Nat} {s : ClSt} (hs : clAt l k = s) (h : isAt (s.out.getD k 0) = false) : clAt l (k + 1) = s := by
  show clStep (clAt l k) k = s
  rw [hs]; unfold clStep; rw [if_neg (by rw [h]; simp)]
theorem cl_own {l : List Int} {k : Nat} {s : ClSt} (hs : clAt l k = s) (h : isAt (s.out.getD k 0) = true) (h2 : s.out.getD k 0 = 2 ∧ isEnd s.last = true) : clAt l (k + 1) = ⟨s.out.set k 0, 0, k⟩ := by
  show clStep (clAt l k) k = _
  rw [hs]; unfold clStep; rw [if_pos h, if_pos h2]
theorem cl_back {l : List Int} {k : Nat} {s : ClSt} (hs : clAt l k = s) (h : isAt (s.out.getD k 0) = true) (h2 : ¬ (s.out.getD k 0 = 2 ∧ isEnd s.last = true)) (h3 : s.last = 2 ∧ (s.out.getD k 0 = 3 ∨ s.out.getD k 0 = 5 ∨ s.out.getD k 0 = 6)) : clAt l (k + 1) = ⟨s.out.set s.at_ 0, (s.out.set s.at_ 0).getD k 0, k⟩ := by
  show clStep (clAt l k) k = _
  rw [hs]; unfold clStep; rw [if_pos h, if_neg h2, if_pos h3]
theorem cl_on {l : List Int} {k : Nat} {s : ClSt} (hs : clAt l k = s) (h : isAt (s.out.getD k 0) = true) (h2 : ¬ (s.out.getD k 0 = 2 ∧ isEnd s.last = true)) (h3 : ¬ (s.last = 2 ∧ (s.out.getD k 0 = 3 ∨ s.out.getD k 0 = 5 ∨ s.out.getD k 0 = 6))) : clAt l (k + 1) = ⟨s.out, s.out.getD k 0, k⟩ := by
  show clStep (clAt l k) k = _
  rw [hs]; unfold clStep; rw [if_pos h, if_neg h2, if_neg h3]
def space_Classes.f (l0 : List Int) : Option (List Int) := if l0.length < 17592186044416 then some (classesN l0) else none
set_option maxHeartbeats 1000000 in
theorem classes_full (A0 : Option Addr) (c0 : Nat) (l0 : List Int) (w : World) (hr0 : Kd.C (Kd.int .i64) w A0 l0.length l0) (hc0 : l0.length ≤ c0) (hl : l0.length < 17592186044416) (hpos : 0 < l0.length) :
    Calls Try.prog 9 #[.slice A0 l0.length c0] w fun e w' => ∃ v0_ : Value, e = .returned (v0_) ∧ Kd.R (Kd.int .i64) 3 w' w.heap.size (fun _ => True) v0_ (classesN l0) ∧ Below w.heap.size w w' := by
  have HCl := Lib.hid (slices_Clone_int_int.calls A0 c0 l0 l0 w hr0 hc0 (by unfold slices_Clone_int_int.f; rw [if_pos hl]))
  clear hr0 hc0
  go_enter Try.func9, Try.ntmps9
  go_wp2_with fail
  refine HCl.out.mono ?_
  rintro e w1 ⟨v1, rfl, ho, hb⟩
  obtain ⟨g, cap, rfl, _, _⟩ := (Kd.own_of_R ho).form hpos
  have HO := Aside0.mk (RowAt.mk ho hb)
  clear ho hb HCl
  go_wp2_with fail
  go_loopw [4, 5, 12] (fun s4 s5 i wr => ∃ (k : Nat) (last : Int) (p : Nat) (out : List Int), k ≤ l0.length ∧ p ≤ l0.length ∧ i = .int .i64 k ∧ s4 = .int .i64 last ∧ s5 = .int .i64 p ∧ Aside0 (clAt l0 k = ⟨out, last, p⟩) ∧ Aside0 (RowAt w wr g l0.length cap out) ∧ (last = 2 → p < l0.length)) (fun _ _ i _ => l0.length - (intOf i).toNat)
  case atStart => exact ⟨0, -1, 0, l0, Nat.zero_le _, Nat.zero_le _, rfl, rfl, rfl, ⟨rfl⟩, HO, by omega⟩
  case round =>
    obtain ⟨k, last, p, out, hk, hp, rfl, rfl, rfl, HS, HR, hlp⟩ := hrel
    have HLP := Lib.hid hlp
    clear HO hlp
    by_cases hlt : k < l0.length
    · have hcell := HR.out.cell hlt
      have HN := Lib.hid HR.out.len
      obtain ⟨c, hc⟩ : ∃ c, c = out.getD k 0 := ⟨_, rfl⟩
      rw [← hc] at hcell
      have HC := Lib.hid hc
      clear hc
      go_wp2_with fail
      cases hat : isAt c with
      | false =>
        have HA := Lib.hid hat
        clear hat
        refine (space_atom.calls c false _ (at_is c false HA.out)).mono ?_
        rintro e w2 ⟨rfl, hd⟩
        have HR2 := Aside0.mk (HR.out.drawn hd)
        clear hd HR hcell
        go_wp2
        go_roundw
        case rel => exact ⟨k + 1, last, p, out, by omega, hp, by go_num, rfl, rfl, ⟨cl_skip HS.out (by rw [← HC.out]; exact HA.out)⟩, HR2, HLP.out⟩
        case measure => simp [intOf]; omega
      | true =>
        have HA := Lib.hid hat
        clear hat
        refine (space_atom.calls c true _ (at_is c true HA.out)).mono ?_
        rintro e w2 ⟨rfl, hd⟩
        have HR2 := Aside0.mk (HR.out.drawn hd)
        clear hd HR hcell
        by_cases h2 : c = 2 ∧ isEnd last = true
        · have HE := Lib.hid h2.2
          have H2 := Lib.hid h2.1
          have hc2 : (c == 2) = true := beq_yes h2.1
          clear h2
          go_wp2_with fail
          refine (space_ends.calls 1 last true _ (end_is last true HE.out)).mono ?_
          rintro e w3 ⟨rfl, hd⟩
          have HR3 := Aside0.mk (HR2.out.drawn hd)
          clear hd HR2
          go_wp2_with (first | ((with_reducible refine gate_ (.store 3 (.tmp 29) (.const (.int .i64 0))) rfl ?_); refine RowAt.store (.tmp 29) (.const (.int .i64 0)) rfl rfl rfl k 0 rfl rfl HR3.out hlt ?_; intro w4 hr4; have HR4 := Aside0.mk hr4; have hcell4 := hr4.cell_set hlt; clear hr4 HR3))
          go_roundw
          case rel => exact ⟨k + 1, 0, k, out.set k 0, by omega, by omega, by go_num, rfl, rfl, ⟨cl_own HS.out (by rw [← HC.out]; exact HA.out) ⟨by rw [← HC.out]; exact H2.out, HE.out⟩⟩, HR4, fun h => absurd h (by decide)⟩
          case measure => simp [intOf]; omega
        · by_cases h3 : last = 2 ∧ (c = 3 ∨ c = 5 ∨ c = 6)
          · have H3 := Lib.hid h3
            have hc2 : (c == 2) = false := beq_no (by omega)
            have hl2 : (last == 2) = true := beq_yes h3.1
            have hpl := HLP.out h3.1
            have HX := Lib.hid h2
            have hcc := h3.2
            clear h2 h3
            rcases hcc with hcc | hcc | hcc
            all_goals
              first | (have t1 : (c == 3) = true := beq_yes hcc) | (have t1 : (c == 5) = true := beq_yes hcc; have t2 : (c == 3) = false := beq_no (by omega)) | (have t1 : (c == 6) = true := beq_yes hcc; have t2 : (c == 3) = false := beq_no (by omega); have t3 : (c == 5) = false := beq_no (by omega))
              clear hcc
              go_wp2_with (first | ((with_reducible refine gate_ (.store 3 (.tmp 47) (.const (.int .i64 0))) rfl ?_); refine RowAt.store (.tmp 47) (.const (.int .i64 0)) rfl rfl rfl p 0 rfl rfl HR2.out hpl ?_; intro w4 hr4; have HR4 := Aside0.mk hr4; have hcell4 := hr4.cell hlt; clear hr4 HR2))
              go_roundw
              case rel => exact ⟨k + 1, _, k, out.set p 0, by omega, by omega, by go_num, rfl, rfl, ⟨cl_back HS.out (by rw [← HC.out]; exact HA.out) (by rw [← HC.out]; exact HX.out) (by rw [← HC.out]; exact H3.out)⟩, HR4, fun _ => hlt⟩
              case measure => simp [intOf]; omega
          · have HX := Lib.hid h2
            have HY := Lib.hid h3
            have hcell2 := HR2.out.cell hlt
            rw [← HC.out] at hcell2
            by_cases hcc : c = 2
            · have hE : isEnd last = false := by
                cases h : isEnd last with
                | false => rfl
                | true => exact absurd ⟨hcc, h⟩ h2
              have HE := Lib.hid hE
              have hc2 : (c == 2) = true := beq_yes hcc
              have hl2 : (last == 2) = false := beq_no (by intro h; rw [h] at hE; exact absurd hE (by decide))
              clear h2 h3 hcc hE
              go_wp2_with fail
              refine (space_ends.calls 1 last false _ (end_is last false HE.out)).mono ?_
              rintro e w3 ⟨rfl, hd⟩
              have HR3 := Aside0.mk (HR2.out.drawn hd)
              have hcell3 := HR3.out.cell hlt
              rw [← HC.out] at hcell3
              clear hd HR2 hcell2
              go_wp2
              go_roundw
              case rel => exact ⟨k + 1, c, k, out, by omega, by omega, by go_num, rfl, rfl, ⟨by rw [cl_on HS.out (by rw [← HC.out]; exact HA.out) (by rw [← HC.out]; exact HX.out) (by rw [← HC.out]; exact HY.out), HC.out]⟩, HR3, fun _ => hlt⟩
              case measure => simp [intOf]; omega
            · have hc2 : (c == 2) = false := beq_no hcc
              by_cases hl2 : last = 2
              · have t0 : (last == 2) = true := beq_yes hl2
                have t1 : (c == 3) = false := beq_no (fun h => h3 ⟨hl2, .inl h⟩)
                have t2 : (c == 5) = false := beq_no (fun h => h3 ⟨hl2, .inr (.inl h)⟩)
                have t3 : (c == 6) = false := beq_no (fun h => h3 ⟨hl2, .inr (.inr h)⟩)
                clear h2 h3 hcc hl2
                go_wp2
                go_roundw
                case rel => exact ⟨k + 1, c, k, out, by omega, by omega, by go_num, rfl, rfl, ⟨by rw [cl_on HS.out (by rw [← HC.out]; exact HA.out) (by rw [← HC.out]; exact HX.out) (by rw [← HC.out]; exact HY.out), HC.out]⟩, HR2, fun _ => hlt⟩
                case measure => simp [intOf]; omega
              · have t0 : (last == 2) = false := beq_no hl2
                clear h2 h3 hcc hl2
                go_wp2
                go_roundw
                case rel => exact ⟨k + 1, c, k, out, by omega, by omega, by go_num, rfl, rfl, ⟨by rw [cl_on HS.out (by rw [← HC.out]; exact HA.out) (by rw [← HC.out]; exact HX.out) (by rw [← HC.out]; exact HY.out), HC.out]⟩, HR2, fun _ => hlt⟩
                case measure => simp [intOf]; omega
    · have hkk : k = l0.length := by omega
      have HF := Lib.hid (show classesN l0 = clEnd ⟨out, last, p⟩ by unfold classesN; rw [← hkk, HS.out])
      clear hkk
      by_cases hl2 : last = 2
      · have t0 : (last == 2) = true := beq_yes hl2
        have hpl := HLP.out hl2
        have H2 := Lib.hid hl2
        clear hl2
        go_wp2_with (first | ((with_reducible refine gate_ (.store 3 (.tmp 58) (.const (.int .i64 0))) rfl ?_); refine RowAt.store (.tmp 58) (.const (.int .i64 0)) rfl rfl rfl p 0 rfl rfl HR.out hpl ?_; intro w4 hr4; have HR4 := Aside0.mk hr4; clear hr4 HR))
        go_ret
        refine ⟨_, rfl, ?_, HR4.out.B⟩
        rw [HF.out]; unfold clEnd; rw [if_pos H2.out]; exact HR4.out.R
      · have t0 : (last == 2) = false := beq_no hl2
        have H2 := Lib.hid hl2
        clear hl2
        go_wp2
        go_ret
        refine ⟨_, rfl, ?_, HR.out.B⟩
        rw [HF.out]; unfold clEnd; rw [if_neg H2.out]; exact HR.out.R

theorem classes_empty (A0 : Option Addr) (c0 : Nat) (w : World) (hr0 : Kd.C (Kd.int .i64) w A0 ([] : List Int).length []) :
    Calls Try.prog 9 #[.slice A0 0 c0] w fun e w' => ∃ v0_ : Value, e = .returned (v0_) ∧ Kd.R (Kd.int .i64) 3 w' w.heap.size (fun _ => True) v0_ [] ∧ Below w.heap.size w w' := by
  have HCl := Lib.hid (slices_Clone_int_int.calls A0 c0 [] [] w hr0 (Nat.zero_le _) (by unfold slices_Clone_int_int.f; rw [if_pos (by decide)]))
  clear hr0
  go_enter Try.func9, Try.ntmps9
  go_wp2_with fail
  refine HCl.out.mono ?_
  rintro e w1 ⟨v1, rfl, ho, hb⟩
  obtain ⟨A, c, rfl⟩ := own_slice (Kd.own_of_R ho)
  have HO := Aside0.mk ho
  have HB := Aside0.mk hb
  clear ho hb HCl
  go_wp2_with fail
  refine wp_loop_once ?_
  go_wp2
  go_ret
  exact ⟨_, rfl, HO.out, HB.out⟩
theorem space_Classes.calls (A0 : Option Addr) (c0 : Nat) (l0 : List Int) (r : List Int) (w : World) (hr0 : Kd.C (Kd.int .i64) w A0 l0.length l0) (hc0 : l0.length ≤ c0) (h : space_Classes.f l0 = some r) :
    Calls Try.prog 9 #[.slice A0 l0.length c0] w fun e w' => ∃ v0_ : Value, e = .returned (v0_) ∧ Kd.R (Kd.int .i64) 3 w' w.heap.size (fun _ => True) v0_ r ∧ Below w.heap.size w w' := by
  unfold space_Classes.f at h
  by_cases hl : l0.length < 17592186044416
  case neg => rw [if_neg hl] at h; exact absurd h (by simp)
  rw [if_pos hl] at h
  obtain rfl := Option.some.inj h
  by_cases hp : 0 < l0.length
  · exact classes_full A0 c0 l0 w hr0 hc0 hl hp
  · have : l0 = [] := List.eq_nil_of_length_eq_zero (by omega)
    subst this
    exact classes_empty A0 c0 w hr0
end Go.Proofs.Ytjmgfhphkkiekaa.P
