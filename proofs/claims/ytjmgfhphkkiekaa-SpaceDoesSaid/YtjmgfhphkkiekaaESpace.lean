/- The contract of space.Between: it answers as the plain function below says, by the document's table. No condition. -/
import Derived.Test.YtjmgfhphkkiekaaP0
import Derived.Test.YtjmgfhphkkiekaaPFSpaceAtom
import Derived.Test.YtjmgfhphkkiekaaPFSpaceEnds
import Derived.Test.YtjmgfhphkkiekaaPFStyleIs
import Derived.WalkKit
import Derived.Laws.Tables
import Derived.Deep.WholeRow
import Derived.WalkLawsBesides
import Derived.Lib.Hide
namespace Go.Proofs.Ytjmgfhphkkiekaa.P
open Go.RowKit Go.Proofs.YtjmgfhphkkiekaaW.PrintWords Go.Proofs.YtjmgfhphkkiekaaW.PrintLast Go.Proofs.YtjmgfhphkkiekaaW.PrintMore
attribute [local go_sem] max2_int min2_int max_two min_two max_three min_three max_four min_four

/-! ### The table -/
/-- The zero table's cells. -/
def zeroTab : Array Value := (List.replicate 64 [Value.int .i64 0, Value.bool false]).flatten.toArray
/-- The table: how many mu, and whether not in scripts. -/
def tabNums : List (List (Int × Bool)) :=
  [[(0, false), (3, false), (4, true), (5, true), (0, false), (0, false), (0, false), (3, true)],
   [(3, false), (3, false), (0, false), (5, true), (0, false), (0, false), (0, false), (3, true)],
   [(4, true), (4, true), (0, false), (0, false), (4, true), (0, false), (0, false), (4, true)],
   [(5, true), (5, true), (0, false), (0, false), (5, true), (0, false), (0, false), (5, true)],
   [(0, false), (0, false), (0, false), (0, false), (0, false), (0, false), (0, false), (0, false)],
   [(0, false), (3, false), (4, true), (5, true), (0, false), (0, false), (0, false), (3, true)],
   [(3, true), (3, true), (0, false), (3, true), (3, true), (3, true), (3, true), (3, true)],
   [(3, true), (3, false), (4, true), (5, true), (3, true), (0, false), (3, true), (3, true)]]
def rowCells (l : List (Int × Bool)) : List Value := (l.map fun p => [Value.int .i64 p.1, Value.bool p.2]).flatten
def tabCells : Array Value := (tabNums.map rowCells).flatten.toArray
theorem tab_heap (w : World) (a b c d e : Obj) : ((((((w.alloc (.cells zeroTab 47)).alloc a).alloc b).alloc c).alloc d).alloc e).heap[w.heap.size]? = some (.cells zeroTab 47 (0, 0)) := by
  have hb : Below (w.heap.size + 1) (w.alloc (.cells zeroTab 47)) ((((((w.alloc (.cells zeroTab 47)).alloc a).alloc b).alloc c).alloc d).alloc e) :=
    (((((Below.refl _ _).alloc (by simp) a).alloc (by simp) b).alloc (by simp) c).alloc (by simp) d).alloc (by simp) e
  rw [hb.block _ (by omega)]
  exact heap_alloc_new w _
theorem tab_below (w : World) (a b c d e : Obj) (cs : Array Value) : Below w.heap.size w (((((((w.alloc (.cells zeroTab 47)).alloc a).alloc b).alloc c).alloc d).alloc e).setRow w.heap.size cs) := by
  have h : Below w.heap.size w ((((((w.alloc (.cells zeroTab 47)).alloc a).alloc b).alloc c).alloc d).alloc e) :=
    ((((((Below.refl _ _).alloc (Nat.le_refl _) _).alloc (by simp) a).alloc (by simp; omega) b).alloc (by simp; omega) c).alloc (by simp; omega) d).alloc (by simp; omega) e
  exact ⟨h.os, h.tape, h.output, by rw [setRow_size]; exact h.size, fun k hk => by rw [setRow_other _ _ _ _ (by omega)]; exact h.block k hk⟩
def rowAt (i : Nat) : Array Value := (rowCells (tabNums.getD i [])).toArray
theorem wpList_build_at {P : Program} {ops : Array Oper} {rest : List Oper} {o : Oper} {a : Act} {w : World} {Q : Exit → Act → World → Prop} {d : Tmp} (_hd : o.dst = some d) (hg : o.guard = none) (t : TypeId) (parts : Array (Nat × Operand)) (ho : o.op = .build t parts)
    {cells : Array Value} (hf : P.built t (parts.map fun (i, x) => (i, a.eval x)).toList = some cells) (h : wpList P ops Q rest (a.put o.dst (.agg cells)) w) : wpList P ops Q (o :: rest) a w :=
  wpList_build hg t parts ho (by rw [hf]; rfl) (by rw [hf]; exact h)
/-- The world ahead of the table's store. -/
def tabWorld (w : World) : World := (((((w.alloc (.cells zeroTab 47)).alloc (.cells #[.int .i64 0, .bool false] 45)).alloc (.cells #[.int .i64 3, .bool false] 45)).alloc (.cells #[.int .i64 3, .bool true] 45)).alloc (.cells #[.int .i64 4, .bool true] 45)).alloc (.cells #[.int .i64 5, .bool true] 45)
theorem tab_store (w : World) : (storeCells ⟨w.heap.size, 0, none⟩ tabCells.toList).run Try.prog (tabWorld w) = .ok () ((tabWorld w).setRow w.heap.size tabCells) := by
  have h1 : tabCells.all (·.oneCell') = true := by kernel_rfl
  have hs : 0 + tabCells.toList.length = zeroTab.size := by kernel_rfl
  have := run_storeCells_from (P := Try.prog) w.heap.size 47 tabCells.toList 0 zeroTab (tabWorld w) (tab_heap w _ _ _ _ _) hs (fun v hv => (Array.all_eq_true_iff_forall_mem.1 h1) v (by simpa using hv))
  rw [this]
  simp
set_option maxRecDepth 100000 in
set_option maxHeartbeats 1200000 in
theorem table_walk (w : World) :
    Calls Try.prog 29 #[] w fun e w' => e = .returned (.agg tabCells) ∧ Below w.heap.size w w' := by
  have hz := (zero_of_info (P := Try.prog) (t := 47) (v := .agg zeroTab) (n := 128) (by kernel_rfl)).1
  have hst := tab_store w
  unfold tabWorld at hst
  go_enter Try.func29, Try.ntmps29
  go_wp2_with (first
    | (refine wpList_build_at (d := 18) rfl rfl 46 _ rfl (cells := rowAt 0) (by kernel_rfl) ?_)
    | (refine wpList_build_at (d := 27) rfl rfl 46 _ rfl (cells := rowAt 1) (by kernel_rfl) ?_)
    | (refine wpList_build_at (d := 36) rfl rfl 46 _ rfl (cells := rowAt 2) (by kernel_rfl) ?_)
    | (refine wpList_build_at (d := 45) rfl rfl 46 _ rfl (cells := rowAt 3) (by kernel_rfl) ?_)
    | (refine wpList_build_at (d := 46) rfl rfl 46 _ rfl (cells := rowAt 4) (by kernel_rfl) ?_)
    | (refine wpList_build_at (d := 55) rfl rfl 46 _ rfl (cells := rowAt 5) (by kernel_rfl) ?_)
    | (refine wpList_build_at (d := 64) rfl rfl 46 _ rfl (cells := rowAt 6) (by kernel_rfl) ?_)
    | (refine wpList_build_at (d := 73) rfl rfl 46 _ rfl (cells := rowAt 7) (by kernel_rfl) ?_)
    | (refine wpList_build_at (d := 74) rfl rfl 47 _ rfl (cells := tabCells) (by kernel_rfl) ?_))
  exact bodyPost_ret (results_cell_row rfl _ _ w.heap.size 47 tabCells (0, 0) _ rfl (setRow_heap _ _ zeroTab _ _ _ (tab_heap w _ _ _ _ _)) Try.underlying47 rfl (by kernel_rfl)) rfl ⟨rfl, tab_below w _ _ _ _ _ _⟩

/-! ### Between -/
def isAtom (a : Int) : Bool := decide (0 ≤ a ∧ a ≤ 7)
theorem atom_at (a : Int) (b : Bool) (h : isAtom a = b) : space_atom.f a = some b := by
  subst h
  unfold space_atom.f isAtom
  split
  · rw [Option.some.injEq, decide_eq_decide]; omega
  · symm; rw [Option.some.injEq]; exact decide_eq_false (by omega)
theorem style_at (a : Int) (b : Bool) (h : isAtom a = b) : style_Is.f a = some b := by
  subst h
  unfold style_Is.f isAtom
  split
  · rw [Option.some.injEq, decide_eq_decide]; omega
  · symm; rw [Option.some.injEq]; exact decide_eq_false (by omega)
def tabAt (a b : Int) : Int × Bool := (tabNums.getD a.toNat []).getD b.toNat (0, false)
theorem eight {P : Int → Prop} {a : Int} (h : isAtom a = true) (h0 : P 0) (h1 : P 1) (h2 : P 2) (h3 : P 3) (h4 : P 4) (h5 : P 5) (h6 : P 6) (h7 : P 7) : P a := by
  unfold isAtom at h
  have := of_decide_eq_true h
  have : a = 0 ∨ a = 1 ∨ a = 2 ∨ a = 3 ∨ a = 4 ∨ a = 5 ∨ a = 6 ∨ a = 7 := by omega
  rcases this with rfl | rfl | rfl | rfl | rfl | rfl | rfl | rfl <;> assumption
theorem idx1 (a : Int) (h : isAtom a = true) (w : World) : (Instr.index 47 (.agg tabCells) (.int .i64 a)).run Try.prog w = .ok (.agg (rowAt a.toNat)) w :=
  eight (P := fun a => (Instr.index 47 (.agg tabCells) (.int .i64 a)).run Try.prog w = .ok (.agg (rowAt a.toNat)) w) h
    (by kernel_rfl) (by kernel_rfl) (by kernel_rfl) (by kernel_rfl) (by kernel_rfl) (by kernel_rfl) (by kernel_rfl) (by kernel_rfl)
theorem idx2_row (i : Nat) (hi : i < 8) (b : Int) (h : isAtom b = true) (w : World) : (Instr.index 46 (.agg (rowAt i)) (.int .i64 b)).run Try.prog w = .ok (.agg #[.int .i64 ((tabNums.getD i []).getD b.toNat (0, false)).1, .bool ((tabNums.getD i []).getD b.toNat (0, false)).2]) w := by
  refine eight (P := fun b => (Instr.index 46 (.agg (rowAt i)) (.int .i64 b)).run Try.prog w = .ok (.agg #[.int .i64 ((tabNums.getD i []).getD b.toNat (0, false)).1, .bool ((tabNums.getD i []).getD b.toNat (0, false)).2]) w) h ?_ ?_ ?_ ?_ ?_ ?_ ?_ ?_ <;>
  (have : i = 0 ∨ i = 1 ∨ i = 2 ∨ i = 3 ∨ i = 4 ∨ i = 5 ∨ i = 6 ∨ i = 7 := by omega
   rcases this with rfl | rfl | rfl | rfl | rfl | rfl | rfl | rfl <;> (show _ = _; kernel_rfl))
theorem idx2 (a b : Int) (ha : isAtom a = true) (h : isAtom b = true) (w : World) : (Instr.index 46 (.agg (rowAt a.toNat)) (.int .i64 b)).run Try.prog w = .ok (.agg #[.int .i64 (tabAt a b).1, .bool (tabAt a b).2]) w :=
  idx2_row a.toNat (by unfold isAtom at ha; have := of_decide_eq_true ha; omega) b h w
def betweenN (a b c : Int) : Int :=
  if isAtom a = true ∧ isAtom b = true ∧ isAtom c = true then (if (tabAt a b).2 = true ∧ 4 ≤ c then 0 else (tabAt a b).1) else 0
set_option maxHeartbeats 400000 in
theorem between_in (a b c m r : Int) (t : Bool) (w : World) (hr : (if t = true ∧ 4 ≤ c then 0 else m) = r) (ha : isAtom a = true) (hb : isAtom b = true) (hc : isAtom c = true) (hm : (tabAt a b).1 = m) (ht : (tabAt a b).2 = t) :
    Calls Try.prog 17 #[.int .i64 a, .int .i64 b, .int .i64 c] w fun e w' => e = .returned (.int .i64 r) ∧ Below w.heap.size w w' := by
  have HR := Lib.hid hr
  clear hr
  have i1 := idx1 a ha
  have i2 := idx2 a b ha hb
  rw [hm, ht] at i2
  have H1 := Lib.hid (atom_at a true ha)
  have H2 := Lib.hid (atom_at b true hb)
  have H3 := Lib.hid (style_at c true hc)
  clear ha hb hc hm ht
  by_cases h4 : 4 ≤ c <;> cases t
  all_goals
    go_enter Try.func17, Try.ntmps17
    go_wp2_with fail
    refine (space_atom.calls a true _ H1.out).mono ?_
    rintro e w' ⟨rfl, ⟨n1, rfl⟩⟩
    go_wp2_with fail
    refine (space_atom.calls b true _ H2.out).mono ?_
    rintro e w' ⟨rfl, ⟨n2, rfl⟩⟩
    go_wp2_with fail
    refine (style_Is.calls c true _ H3.out).mono ?_
    rintro e w' ⟨rfl, ⟨n3, rfl⟩⟩
    go_wp2_with fail
    refine (table_walk _).mono ?_
    rintro e w3 ⟨rfl, hb3⟩
    have hB : Below w.heap.size w w3 := (pw_below_drewN (Below.refl _ _) _).trans hb3
    clear hb3
    go_wp2_with fail
    go_ret
    refine ⟨congrArg (fun z => Ending.returned (Value.int .i64 z)) (?_ : _ = r), hB.alloc hB.size _⟩
    rw [← HR.out]
    first | (simp [h4]; done) | (rw [if_neg (fun h => absurd h.2 (by omega))]; done)
theorem between_out (a b c : Int) (w : World) (h : ¬ (isAtom a = true ∧ isAtom b = true ∧ isAtom c = true)) :
    Calls Try.prog 17 #[.int .i64 a, .int .i64 b, .int .i64 c] w fun e w' => e = .returned (.int .i64 0) ∧ Below w.heap.size w w' := by
  cases ha : isAtom a with
  | false =>
    have H1 := Lib.hid (atom_at a false ha)
    clear ha h
    go_enter Try.func17, Try.ntmps17
    go_wp2_with fail
    refine (space_atom.calls a false _ H1.out).mono ?_
    rintro e w' ⟨rfl, ⟨n1, rfl⟩⟩
    go_wp2_with fail
    go_ret
    exact ⟨rfl, pw_below_drewN (Below.refl _ _) _⟩
  | true =>
    cases hb : isAtom b with
    | false =>
      have H1 := Lib.hid (atom_at a true ha)
      have H2 := Lib.hid (atom_at b false hb)
      clear ha hb h
      go_enter Try.func17, Try.ntmps17
      go_wp2_with fail
      refine (space_atom.calls a true _ H1.out).mono ?_
      rintro e w' ⟨rfl, ⟨n1, rfl⟩⟩
      go_wp2_with fail
      refine (space_atom.calls b false _ H2.out).mono ?_
      rintro e w' ⟨rfl, ⟨n2, rfl⟩⟩
      go_wp2_with fail
      go_ret
      exact ⟨rfl, pw_below_drewN (Below.refl _ _) _⟩
    | true =>
      cases hc : isAtom c with
      | false =>
        have H1 := Lib.hid (atom_at a true ha)
        have H2 := Lib.hid (atom_at b true hb)
        have H3 := Lib.hid (style_at c false hc)
        clear ha hb hc h
        go_enter Try.func17, Try.ntmps17
        go_wp2_with fail
        refine (space_atom.calls a true _ H1.out).mono ?_
        rintro e w' ⟨rfl, ⟨n1, rfl⟩⟩
        go_wp2_with fail
        refine (space_atom.calls b true _ H2.out).mono ?_
        rintro e w' ⟨rfl, ⟨n2, rfl⟩⟩
        go_wp2_with fail
        refine (style_Is.calls c false _ H3.out).mono ?_
        rintro e w' ⟨rfl, ⟨n3, rfl⟩⟩
        go_wp2_with fail
        go_ret
        exact ⟨rfl, pw_below_drewN (Below.refl _ _) _⟩
      | true => exact absurd ⟨ha, hb, hc⟩ h
def space_Between.f (a0 : Int) (a1 : Int) (a2 : Int) : Option (Int) := some (betweenN a0 a1 a2)
theorem space_Between.calls (a0 : Int) (a1 : Int) (a2 : Int) (r : Int) (w : World) (h : space_Between.f a0 a1 a2 = some r) :
    Calls Try.prog 17 #[.int .i64 a0, .int .i64 a1, .int .i64 a2] w fun e w' => e = .returned (.int .i64 r) ∧ Below w.heap.size w w' := by
  obtain rfl := Option.some.inj h
  unfold betweenN
  by_cases hh : isAtom a0 = true ∧ isAtom a1 = true ∧ isAtom a2 = true
  · rw [if_pos hh]
    exact between_in a0 a1 a2 _ _ _ w rfl hh.1 hh.2.1 hh.2.2 rfl rfl
  · rw [if_neg hh]
    exact between_out a0 a1 a2 w hh
end Go.Proofs.Ytjmgfhphkkiekaa.P
