/- Words, contracts and plain facts of the proof. Each says its own condition. -/
import Derived.Test.YtejdflndgnpkcaaProg
import Derived.Below
import Derived.Deep.Draws
import Derived.Deep.AppendLies
import Derived.Maps.AppendAt
import Derived.OwnWalk
import Derived.Laws.BytesArg
import Derived.Laws.MakeOwn
import Derived.Laws.OwnMore
import Derived.Deep.OwnRows
import Derived.Tactics
import Derived.Lib.ConvBytes
import Derived.Laws.Slices
import Derived.WalkKit
import Derived.KernelRfl
import Derived.RowKit3
import Derived.Deep.LoopGhost
import Derived.Deep.QuietTactic
import Derived.BigQuiet
import Derived.WideLaws
import Derived.Deep.DeepCutAuto
import Derived.Deep.CutBlock
import Derived.Deep.RegionHeld3
import Derived.Laws.Rows
import Derived.Lib.AppendStr
import Derived.ArgAppend
import Derived.Laws.IdiomCopy
import Derived.OrdersHeld
import Derived.Laws.BitsLemmas
import Derived.RowKit
import Derived.Test.YtejdflndgnpkcaaZCmapRecordsa
import Derived.Test.YtejdflndgnpkcaaZCmapRecordsb
import Derived.Test.YtejdflndgnpkcaaZCmapRecordsc
import Derived.Test.YtejdflndgnpkcaaZCmapRecordsd
set_option linter.unusedVariables false
set_option linter.unusedSimpArgs false
section
namespace Go.Proofs.Ytejdflndgnpkcaa.P
open Go.RowKit Go.Proofs.YtejdflndgnpkcaaW.PrintWords Go.Proofs.YtejdflndgnpkcaaW.PrintLast Go.Proofs.YtejdflndgnpkcaaW.PrintMore
attribute [local go_sem] max2_int min2_int max_two min_two max_three min_three max_four min_four
def errW : Option Int → Value
  | none => .nilIface
  | some c => .iface 0 (.int .i64 c)
theorem errW_none : errW none = .nilIface := rfl
theorem errW_some (c : Int) : errW (some c) = .iface 0 (.int .i64 c) := rfl
theorem info50 : (Try.prog.info? 50).map (fun i => (i.zero, i.size, i.bytes)) = some (some (.agg #[(.int .i64 0), (.int .i64 0), (.int .i64 0), (.int .i64 0)]), 4, 32) := by kernel_rfl
structure S50 where
  f0 : Int
  f1 : Int
  f2 : Int
  f3 : Int
def z50 : S50 := ⟨(0 : Int), (0 : Int), (0 : Int), (0 : Int)⟩
def k50 : Kd S50 := Kd.iso (Kd.pair (Kd.int .i64) (Kd.pair (Kd.int .i64) (Kd.pair (Kd.int .i64) (Kd.int .i64)))) (fun x : S50 => (x.f0, x.f1, x.f2, x.f3))
theorem k50_open {w : World} {x : S50} {cs : List Value} (h : k50.K w x cs) : cs = [.int .i64 x.f0, .int .i64 x.f1, .int .i64 x.f2, .int .i64 x.f3] := by
  obtain ⟨_, _, rfl, rfl, ⟨_, _, rfl, rfl, ⟨_, _, rfl, rfl, rfl⟩⟩⟩ := h
  exact rfl
theorem k50_openM {w : World} {base : Nat} {ok : Nat → Prop} {x : S50} {cs : List Value} (h : k50.M w base ok x cs) : cs = [.int .i64 x.f0, .int .i64 x.f1, .int .i64 x.f2, .int .i64 x.f3] := by
  obtain ⟨_, _, rfl, rfl, ⟨_, _, rfl, rfl, ⟨_, _, rfl, rfl, rfl⟩⟩⟩ := h
  exact rfl
theorem k50_mk (w : World) (x : S50)  : k50.K w x [.int .i64 x.f0, .int .i64 x.f1, .int .i64 x.f2, .int .i64 x.f3] := ⟨[.int .i64 x.f0], [.int .i64 x.f1, .int .i64 x.f2, .int .i64 x.f3], rfl, rfl, ⟨[.int .i64 x.f1], [.int .i64 x.f2, .int .i64 x.f3], rfl, rfl, ⟨[.int .i64 x.f2], [.int .i64 x.f3], rfl, rfl, rfl⟩⟩⟩
theorem k50_mkM (w : World) (base : Nat) (ok : Nat → Prop) (x : S50)  : k50.M w base ok x [.int .i64 x.f0, .int .i64 x.f1, .int .i64 x.f2, .int .i64 x.f3] := ⟨[.int .i64 x.f0], [.int .i64 x.f1, .int .i64 x.f2, .int .i64 x.f3], rfl, rfl, ⟨[.int .i64 x.f1], [.int .i64 x.f2, .int .i64 x.f3], rfl, rfl, ⟨[.int .i64 x.f2], [.int .i64 x.f3], rfl, rfl, rfl⟩⟩⟩
def rd_T50 (xs : List S50) (i : Int) : S50 := xs.getD i.toNat z50
theorem at_T50 {w : World} {A : Option Addr} {n : Nat} {xs : List S50} (h : Kd.C k50 w A n xs) (i : Int) (h0 : 0 ≤ i) (h1 : i < n) : ∃ ad , A = some ad ∧ w.cell? (ad.add (i.toNat * 4)) = some (.int .i64 (rd_T50 xs i).f0) ∧ w.cell? ⟨(ad.add (i.toNat * 4)).block, (ad.add (i.toNat * 4)).off + 1, none⟩ = some (.int .i64 (rd_T50 xs i).f1) ∧ w.cell? ⟨(ad.add (i.toNat * 4)).block, (ad.add (i.toNat * 4)).off + 2, none⟩ = some (.int .i64 (rd_T50 xs i).f2) ∧ w.cell? ⟨(ad.add (i.toNat * 4)).block, (ad.add (i.toNat * 4)).off + 3, none⟩ = some (.int .i64 (rd_T50 xs i).f3) := by
  obtain ⟨ad, c, e, _, hK, hc0⟩ := Kd.C_get h z50 i h0 h1
  have hc : ∀ j u, c[j]? = some u → w.cell? (ad.add (i.toNat * 4 + j)) = some u := hc0
  obtain rfl := k50_open hK
  exact ⟨ad, e, hc 0 _ rfl, by rw [← add_field _ _ 1 (by omega)]; exact hc 1 _ rfl, by rw [← add_field _ _ 2 (by omega)]; exact hc 2 _ rfl, by rw [← add_field _ _ 3 (by omega)]; exact hc 3 _ rfl⟩
structure S41 where
  f0 : Int
  f1 : Int
def z41 : S41 := ⟨(0 : Int), (0 : Int)⟩
def k41 : Kd S41 := Kd.iso (Kd.pair (Kd.int .i64) (Kd.int .i64)) (fun x : S41 => (x.f0, x.f1))
theorem k41_open {w : World} {x : S41} {cs : List Value} (h : k41.K w x cs) : cs = [.int .i64 x.f0, .int .i64 x.f1] := by
  obtain ⟨_, _, rfl, rfl, rfl⟩ := h
  exact rfl
theorem k41_mkM (w : World) (base : Nat) (ok : Nat → Prop) (x : S41)  : k41.M w base ok x [.int .i64 x.f0, .int .i64 x.f1] := ⟨[.int .i64 x.f0], [.int .i64 x.f1], rfl, rfl, rfl⟩
def rd_T41 (xs : List S41) (i : Int) : S41 := xs.getD i.toNat z41
theorem at_T41 {w : World} {A : Option Addr} {n : Nat} {xs : List S41} (h : Kd.C k41 w A n xs) (i : Int) (h0 : 0 ≤ i) (h1 : i < n) : ∃ ad , A = some ad ∧ w.cell? (ad.add (i.toNat * 2)) = some (.int .i64 (rd_T41 xs i).f0) ∧ w.cell? ⟨(ad.add (i.toNat * 2)).block, (ad.add (i.toNat * 2)).off + 1, none⟩ = some (.int .i64 (rd_T41 xs i).f1) := by
  obtain ⟨ad, c, e, _, hK, hc0⟩ := Kd.C_get h z41 i h0 h1
  have hc : ∀ j u, c[j]? = some u → w.cell? (ad.add (i.toNat * 2 + j)) = some u := hc0
  obtain rfl := k41_open hK
  exact ⟨ad, e, hc 0 _ rfl, by rw [← add_field _ _ 1 (by omega)]; exact hc 1 _ rfl⟩
end Go.Proofs.Ytejdflndgnpkcaa.P
end
section
namespace Go.Proofs.YtejdflndgnpkcaaW.PrintLast
section
open Go.RowKit Go.Proofs.YtejdflndgnpkcaaW.PrintWords Go.Proofs.YtejdflndgnpkcaaW.PrintMore
variable {P : Program} {ops : Array Oper} {Q : Exit → Act → World → Prop} {md : Region.Mode} {S : World → Prop} {ds : List Nat} {T : Bool × List (List Nat × List Nat)}
theorem pS_ (i n : Nat) {oi : Oper} {v : Value} {fuel : Nat} {l l' : Array Bool} {a a' : Act} {w : World} (h : wpAnyLast P md ops Q S ds fuel l' a' w) (hi : ops[i]? = some oi := by rfl) (hN : oi.dst = some n := by rfl)
    (hl : l.setIfInBounds i true = l' := by (simp only [List.setIfInBounds_toArray, List.set_cons_zero, List.set_cons_succ]; rfl)) (hc : anyB md ops l l' i = true := by kernel_rfl)
    (hQ : ∀ c a w, Q (.panic c) (a.put oi.dst v) w → Q (.panic c) a w := by exact fun _ _ _ h => h) (hy : Yields P ops oi v a := by (refine Or.inl ⟨by rfl, ?_⟩; intro w'; go_simp; with_reducible rfl)) (ha : a.put (some n) v = a' := by (simp only [Act.put, List.setIfInBounds_toArray, List.set_cons_zero, List.set_cons_succ, i64_w, i32_w]; rfl)) : wpAnyLast P md ops Q S ds (fuel + 1) l a w := by
  subst hl
  exact pure_ (i := i) (N := some n) _ hi hN hc hQ hy ha h
theorem pT_ (hT : rtab md ops = T) (i n : Nat) {oi : Oper} {v : Value} {fuel : Nat} {l l' : Array Bool} {a a' : Act} {w : World} (h : wpAnyLast P md ops Q S ds fuel l' a' w) (hi : ops[i]? = some oi := by rfl) (hN : oi.dst = some n := by rfl)
    (hl : l.setIfInBounds i true = l' := by (simp only [List.setIfInBounds_toArray, List.set_cons_zero, List.set_cons_succ]; rfl)) (hc : anyT T l.toList l'.toList i = true := by kernel_rfl)
    (hQ : ∀ c a w, Q (.panic c) (a.put oi.dst v) w → Q (.panic c) a w := by exact fun _ _ _ h => h) (hy : Yields P ops oi v a := by (refine Or.inl ⟨by rfl, ?_⟩; intro w'; go_simp; with_reducible rfl)) (ha : a.put (some n) v = a' := by (simp only [Act.put, List.setIfInBounds_toArray, List.set_cons_zero, List.set_cons_succ, i64_w, i32_w]; rfl)) : wpAnyLast P md ops Q S ds (fuel + 1) l a w := by
  subst hl
  exact pure_ (i := i) (N := some n) _ hi hN (any_of hT hc) hQ hy ha h
theorem tS_ (i n : Nat) {oi : Oper} {v : Value} {fuel : Nat} {l l' : Array Bool} {a a' : Act} {w : World} (hS : S w) (h : wpAnyLast P md ops Q S ds fuel l' a' w) (hi : ops[i]? = some oi := by rfl) (hN : oi.dst = some n := by rfl)
    (hl : l.setIfInBounds i true = l' := by (simp only [List.setIfInBounds_toArray, List.set_cons_zero, List.set_cons_succ]; rfl)) (hc : takeB md ops ds l l' i = true := by kernel_rfl)
    (hQ : ∀ c a w, Q (.panic c) (a.put oi.dst v) w → Q (.panic c) a w := by exact fun _ _ _ h => h) (hy : YieldsIf P ops S oi v a := by (refine Or.inl ⟨by rfl, ?_⟩; intro w' s0; go_simp; with_reducible rfl)) (ha : a.put (some n) v = a' := by (simp only [Act.put, List.setIfInBounds_toArray, List.set_cons_zero, List.set_cons_succ, i64_w, i32_w]; rfl)) : wpAnyLast P md ops Q S ds (fuel + 1) l a w := by
  subst hl
  exact take_ (i := i) (N := some n) _ hi hN hc hQ hy hS ha h
theorem tT_ (hT : rtab md ops = T) (i n : Nat) {oi : Oper} {v : Value} {fuel : Nat} {l l' : Array Bool} {a a' : Act} {w : World} (hS : S w) (h : wpAnyLast P md ops Q S ds fuel l' a' w) (hi : ops[i]? = some oi := by rfl) (hN : oi.dst = some n := by rfl)
    (hl : l.setIfInBounds i true = l' := by (simp only [List.setIfInBounds_toArray, List.set_cons_zero, List.set_cons_succ]; rfl)) (hc : takeT T ds l.toList l'.toList i = true := by kernel_rfl)
    (hQ : ∀ c a w, Q (.panic c) (a.put oi.dst v) w → Q (.panic c) a w := by exact fun _ _ _ h => h) (hy : YieldsIf P ops S oi v a := by (refine Or.inl ⟨by rfl, ?_⟩; intro w' s0; go_simp; with_reducible rfl)) (ha : a.put (some n) v = a' := by (simp only [Act.put, List.setIfInBounds_toArray, List.set_cons_zero, List.set_cons_succ, i64_w, i32_w]; rfl)) : wpAnyLast P md ops Q S ds (fuel + 1) l a w := by
  subst hl
  exact take_ (i := i) (N := some n) _ hi hN (take_of hT hc) hQ hy hS ha h
theorem tW_ {B : List Nat} (hT : rtab md ops = T) (hB : waitsOk T.2 B = true) (i n : Nat) {oi : Oper} {v : Value} {fuel : Nat} {l l' : Array Bool} {a a' : Act} {w : World} (hS : S w) (h : wpAnyLast P md ops Q S ds fuel l' a' w) (hi : ops[i]? = some oi := by rfl) (hN : oi.dst = some n := by rfl)
    (hl : l.setIfInBounds i true = l' := by (simp only [List.setIfInBounds_toArray, List.set_cons_zero, List.set_cons_succ]; rfl)) (hc : takeW T B ds l.toList l'.toList i = true := by kernel_rfl)
    (hQ : ∀ c a w, Q (.panic c) (a.put oi.dst v) w → Q (.panic c) a w := by exact fun _ _ _ h => h) (hy : YieldsIf P ops S oi v a := by (refine Or.inl ⟨by rfl, ?_⟩; intro w' s0; go_simp; with_reducible rfl)) (ha : a.put (some n) v = a' := by (simp only [Act.put, List.setIfInBounds_toArray, List.set_cons_zero, List.set_cons_succ, i64_w, i32_w]; rfl)) : wpAnyLast P md ops Q S ds (fuel + 1) l a w := by
  subst hl
  exact take_ (i := i) (N := some n) _ hi hN (take_ofW hT hB hc) hQ hy hS ha h
theorem nS_ {fuel : Nat} {l : Array Bool} {a a' : Act} {w : World} (h : wpAnyLast P md ops Q S ds fuel l a' w) (ha : a = a' := by (simp only [Act.put, List.setIfInBounds_toArray, List.set_cons_zero, List.set_cons_succ, i64_w, i32_w]; rfl)) : wpAnyLast P md ops Q S ds fuel l a w := norm_ ha h
theorem dS_ {l : Array Bool} {a : Act} {w : World} {n : Nat} (h : Q .normal a w) (hr : (Region.ready md ops l == []) = true := by kernel_rfl) : wpAnyLast P md ops Q S ds n l a w := done_ hr h
theorem vS_ {oi : Oper} {N : Option Tmp} {a : Act} {w w1 : World} {v : Value} {K : Act → World → Prop} (h : K (a.put N v) w1) (hw : Region.wanted oi (yielded ops a.tmps) = true := by rfl) (hN : oi.dst = N := by rfl) (hrun : (execOp a.eval oi).run P w = .ok (.value v) w1 := by (go_simp; exact ⟨rfl, rfl⟩)) : if Region.wanted oi (yielded ops a.tmps) = true then Oper.wp P oi a w K Q else K (a.put N undef) w := value_ hw hN hrun h
section
variable (i n : Nat) {oi : Oper} {fuel : Nat} {l l' : Array Bool} {a : Act} {w : World}
theorem oS_ (h : ∀ K : Act → World → Prop, Shut (∀ a' w', S w' → (S w' → wpAnyLast P md ops Q S ds fuel l' a' w') → K a' w') → if Region.wanted oi (yielded ops a.tmps) = true then Oper.wp P oi a w K Q else K (a.put (some n) undef) w) (hi : ops[i]? = some oi := by rfl) (hN : oi.dst = some n := by rfl)
    (hl : l.setIfInBounds i true = l' := by (simp only [List.setIfInBounds_toArray, List.set_cons_zero, List.set_cons_succ]; rfl)) (hc : readyB md ops l l' i = true := by kernel_rfl) (hd : i ∉ ds := by decide) : wpAnyLast P md ops Q S ds (fuel + 1) l a w := one_ (i := i) (N := some n) l' hi hN hc hd h
theorem lS_ (h : ∀ K : Act → World → Prop, Shut (∀ a' w', wpAnyLast P md ops Q S ds fuel l' a' w' → K a' w') → if Region.wanted oi (yielded ops a.tmps) = true then Oper.wp P oi a w K Q else K (a.put (some n) undef) w) (hi : ops[i]? = some oi := by rfl) (hN : oi.dst = some n := by rfl)
    (hl : l.setIfInBounds i true = l' := by (simp only [List.setIfInBounds_toArray, List.set_cons_zero, List.set_cons_succ]; rfl)) (hc : readyB md ops l l' i = true := by kernel_rfl) (hd : i ∈ ds := by decide) : wpAnyLast P md ops Q S ds (fuel + 1) l a w := last_ (i := i) (N := some n) l' hi hN hc hd h
theorem oT_ (hT : rtab md ops = T) (h : ∀ K : Act → World → Prop, Shut (∀ a' w', S w' → (S w' → wpAnyLast P md ops Q S ds fuel l' a' w') → K a' w') → if Region.wanted oi (yielded ops a.tmps) = true then Oper.wp P oi a w K Q else K (a.put (some n) undef) w) (hi : ops[i]? = some oi := by rfl) (hN : oi.dst = some n := by rfl)
    (hl : l.setIfInBounds i true = l' := by (simp only [List.setIfInBounds_toArray, List.set_cons_zero, List.set_cons_succ]; rfl)) (hc : (readyT T.2 l.toList == [i] && l.toList.set i true == l'.toList) = true := by kernel_rfl) (hd : i ∉ ds := by decide) : wpAnyLast P md ops Q S ds (fuel + 1) l a w := one_ (i := i) (N := some n) l' hi hN (one_of hT hc) hd h
theorem lT_ (hT : rtab md ops = T) (h : ∀ K : Act → World → Prop, Shut (∀ a' w', wpAnyLast P md ops Q S ds fuel l' a' w' → K a' w') → if Region.wanted oi (yielded ops a.tmps) = true then Oper.wp P oi a w K Q else K (a.put (some n) undef) w) (hi : ops[i]? = some oi := by rfl) (hN : oi.dst = some n := by rfl)
    (hl : l.setIfInBounds i true = l' := by (simp only [List.setIfInBounds_toArray, List.set_cons_zero, List.set_cons_succ]; rfl)) (hc : (readyT T.2 l.toList == [i] && l.toList.set i true == l'.toList) = true := by kernel_rfl) (hd : i ∈ ds := by decide) : wpAnyLast P md ops Q S ds (fuel + 1) l a w := last_ (i := i) (N := some n) l' hi hN (one_of hT hc) hd h
end
section
variable (i : Nat) {oi : Oper} {fuel : Nat} {l l' : Array Bool} {a : Act} {w : World}
theorem oN_ (h : ∀ K : Act → World → Prop, Shut (∀ a' w', S w' → (S w' → wpAnyLast P md ops Q S ds fuel l' a' w') → K a' w') → if Region.wanted oi (yielded ops a.tmps) = true then Oper.wp P oi a w K Q else K (a.put none undef) w) (hi : ops[i]? = some oi := by rfl) (hN : oi.dst = none := by rfl)
    (hl : l.setIfInBounds i true = l' := by (simp only [List.setIfInBounds_toArray, List.set_cons_zero, List.set_cons_succ]; rfl)) (hc : readyB md ops l l' i = true := by kernel_rfl) (hd : i ∉ ds := by decide) : wpAnyLast P md ops Q S ds (fuel + 1) l a w := one_ (i := i) (N := none) l' hi hN hc hd h
theorem lN_ (h : ∀ K : Act → World → Prop, Shut (∀ a' w', wpAnyLast P md ops Q S ds fuel l' a' w' → K a' w') → if Region.wanted oi (yielded ops a.tmps) = true then Oper.wp P oi a w K Q else K (a.put none undef) w) (hi : ops[i]? = some oi := by rfl) (hN : oi.dst = none := by rfl)
    (hl : l.setIfInBounds i true = l' := by (simp only [List.setIfInBounds_toArray, List.set_cons_zero, List.set_cons_succ]; rfl)) (hc : readyB md ops l l' i = true := by kernel_rfl) (hd : i ∈ ds := by decide) : wpAnyLast P md ops Q S ds (fuel + 1) l a w := last_ (i := i) (N := none) l' hi hN hc hd h
theorem oU_ (hT : rtab md ops = T) (h : ∀ K : Act → World → Prop, Shut (∀ a' w', S w' → (S w' → wpAnyLast P md ops Q S ds fuel l' a' w') → K a' w') → if Region.wanted oi (yielded ops a.tmps) = true then Oper.wp P oi a w K Q else K (a.put none undef) w) (hi : ops[i]? = some oi := by rfl) (hN : oi.dst = none := by rfl)
    (hl : l.setIfInBounds i true = l' := by (simp only [List.setIfInBounds_toArray, List.set_cons_zero, List.set_cons_succ]; rfl)) (hc : (readyT T.2 l.toList == [i] && l.toList.set i true == l'.toList) = true := by kernel_rfl) (hd : i ∉ ds := by decide) : wpAnyLast P md ops Q S ds (fuel + 1) l a w := one_ (i := i) (N := none) l' hi hN (one_of hT hc) hd h
theorem lU_ (hT : rtab md ops = T) (h : ∀ K : Act → World → Prop, Shut (∀ a' w', wpAnyLast P md ops Q S ds fuel l' a' w' → K a' w') → if Region.wanted oi (yielded ops a.tmps) = true then Oper.wp P oi a w K Q else K (a.put none undef) w) (hi : ops[i]? = some oi := by rfl) (hN : oi.dst = none := by rfl)
    (hl : l.setIfInBounds i true = l' := by (simp only [List.setIfInBounds_toArray, List.set_cons_zero, List.set_cons_succ]; rfl)) (hc : (readyT T.2 l.toList == [i] && l.toList.set i true == l'.toList) = true := by kernel_rfl) (hd : i ∈ ds := by decide) : wpAnyLast P md ops Q S ds (fuel + 1) l a w := last_ (i := i) (N := none) l' hi hN (one_of hT hc) hd h
end
theorem bA {n : Nat} {w w' : World} (h : Below n w w' := by repeat (first | (with_reducible first | exact HB.out | apply below_alloc | apply pw_below_drewN | apply below_drew1) | exact HB.out)) : Below n w w' := h
theorem rA {α : Type} {K : Kd α} {e : TypeId} {w w' : World} {base : Nat} {ok : Nat → Prop} {v : Value} {xs : List α} (h : Kd.R K e w base ok v xs) (g : Kd.R K e w base ok v xs → Kd.R K e w' base ok v xs := by (intro h; (with_reducible repeat (first | apply Kd.R_alloc | apply Kd.R_drewN | apply Kd.R_drew)); exact h)) : Kd.R K e w' base ok v xs := g h
theorem cA {α : Type} {K : Kd α} {w w' : World} {A : Option Addr} {n : Nat} {xs : List α} (h : Kd.C K w A n xs) (g : Kd.C K w A n xs → Kd.C K w' A n xs := by (intro h; repeat (first | exact h | (with_reducible refine Kd.C_alloc ?_ _) | (with_reducible refine Kd.C_drewN ?_ _) | (with_reducible refine Kd.C_drew ?_)))) : Kd.C K w' A n xs := g h
theorem eL {α β : Type} {d : Kd α} {c : Kd β} {e e2 : Nat} {W0 W w1 : World} {base : Nat} {ok ok2 : Nat → Prop} {u v : Value} {xs : List α} {ys : List β} (h : Aside0 (d.R e W0 base ok u xs)) (ho : c.R e2 w1 W.heap.size ok2 v ys) (hb : Below W.heap.size W w1) (g : d.R e W0 base ok u xs → d.R e W base ok u xs := by (intro h; (with_reducible repeat (first | apply Kd.R_alloc | apply Kd.R_drewN | apply Kd.R_drew)); exact h)) : Aside0 (d.R e w1 base (fun k => ok k ∧ some k ≠ v.ownBlock) u xs) := ⟨Kd.R_elder' (g h.out) (Kd.R_base ho) hb⟩
theorem gL_ {rest : List Oper} {oi : Oper} {a : Act} {w : World} (n : Nat) {f : FuncId} {fn : Func} {ars : Array Operand} {ts : Array TypeId} (hf : P.funcs[f]? = some fn) (args : Array Value) (h : Calls P f args w fun e w' => ∃ v, e = .returned v ∧ wpList P ops Q rest (a.put (some n) v) w')
    (hd : oi.dst = some n := by rfl) (hg : oi.guard = none := by rfl) (hname : (fn.name == "runtime.NumGoroutine") = false := by kernel_rfl) (hb : fn.body.isSome = true := by rfl) (hop : oi.op = .call { callee := .value (.func f), args := ars, argTypes := ts } := by rfl) (hargs : ars.map a.eval = args := by ((try simp only [List.map_toArray, List.map_cons, List.map_nil]); first | done | rfl | (simp only [List.length_drop, List.length_take]; rfl))) : wpList P ops Q (oi :: rest) a w := goesL_ (some n) hd hg hf hname hb args hop hargs h
theorem aA {p : Prop} (h : p := by ((try simp only [List.map_toArray, List.map_cons, List.map_nil]); first | done | rfl | (simp only [List.length_drop, List.length_take]; rfl))) : p := h
theorem eA {p : Prop} (h : p := by (first | rfl | (simp [errW_none, errW_some] <;> rfl) | (simp [*, errW_none, errW_some] <;> rfl))) : p := h
theorem gA {p : Prop} (h : p := by (first | rfl | (simp; done) | (simp [*]; done))) : p := h
theorem nA {p : Prop} (h : p := by (first | exact Kd.R_nil _ _ _ _ _ | exact Kd.N_nil _ _ _ _ _ | exact Kd.V_nil _ _ _ _ _ | exact Kd.Q_nil _ _ _ _ _ | exact Kd.S_nil _ _ _ _ _)) : p := h
theorem hA {p : Prop} (h : p := by (first | (go_simp; done) | (go_simp; rfl))) : p := h
theorem sA {p : Prop} (h : p := by (first | (with_reducible assumption) | assumption)) : p := h
end
end Go.Proofs.YtejdflndgnpkcaaW.PrintLast
end
section
namespace Go.Proofs.Ytejdflndgnpkcaa.P
open Go.RowKit Go.Proofs.YtejdflndgnpkcaaW.PrintWords Go.Proofs.YtejdflndgnpkcaaW.PrintLast Go.Proofs.YtejdflndgnpkcaaW.PrintMore
attribute [local go_sem] max2_int min2_int max_two min_two max_three min_three max_four min_four
theorem eqA50 (d : Nat) (w : World) (x0 y0 : Int) (x1 y1 : Int) (x2 y2 : Int) (x3 y3 : Int) :
  (Op.equalIn (d + 2) 50 (.agg #[.int .i64 x0, .int .i64 x1, .int .i64 x2, .int .i64 x3]) (.agg #[.int .i64 y0, .int .i64 y1, .int .i64 y2, .int .i64 y3])).run Try.prog w = .ok (x0 == y0 && (x1 == y1 && (x2 == y2 && (x3 == y3)))) w := by
 refine eqA_of Try.underlying50 (by kernel_rfl) ?_
 refine eqf_cons (by rfl) (by go_simp; rfl) (by go_simp; rfl) (by go_simp) ?_
 refine eqf_cons (by rfl) (by go_simp; rfl) (by go_simp; rfl) (by go_simp) ?_
 refine eqf_cons (by rfl) (by go_simp; rfl) (by go_simp; rfl) (by go_simp) ?_
 exact eqf_last (by rfl) (by go_simp; rfl) (by go_simp; rfl) (by go_simp)
end Go.Proofs.Ytejdflndgnpkcaa.P
end
section
namespace Go.Proofs.Ytejdflndgnpkcaa.P
open Go.RowKit Go.Proofs.YtejdflndgnpkcaaW.PrintWords Go.Proofs.YtejdflndgnpkcaaW.PrintLast Go.Proofs.YtejdflndgnpkcaaW.PrintMore
attribute [local go_sem] max2_int min2_int max_two min_two max_three min_three max_four min_four
attribute [local go_sem high] eqA50
def vinculumref08_one.f (a0_0 : Int) (a0_1 : Int) (a0_2 : Int) (a0_3 : Int) : Option (Bool) := if a0_0 < 0 then (some false) else (if a0_1 < a0_0 then (some false) else (if a0_1 > 1114111 then (some false) else (if a0_3 < 0 then (some false) else (if a0_3 > 1 then (some false) else (if a0_2 < 0 then (some false) else (if a0_2 > 65535 then (some false) else (some (decide ((wrap64 (a0_2 + (wrap64 (a0_3 * (wrap64 (a0_1 - a0_0)))))) ≤ 65535)))))))))
set_option maxHeartbeats 8000000 in
set_option maxRecDepth 100000 in
theorem vinculumref08_one.calls (a0_0 : Int) (a0_1 : Int) (a0_2 : Int) (a0_3 : Int) (r : Bool) (w : World) (h : vinculumref08_one.f a0_0 a0_1 a0_2 a0_3 = some r) :
  Calls Try.prog 57 #[.agg #[.int .i64 a0_0, .int .i64 a0_1, .int .i64 a0_2, .int .i64 a0_3]] w fun e w' => e = .returned (.bool r) ∧ Below w.heap.size w w' := by
 have hu50 := Try.underlying50
 have HB := Aside0.mk (Below.refl w.heap.size w)
 have H : (if a0_0 < 0 then (some false) else (if a0_1 < a0_0 then (some false) else (if a0_1 > 1114111 then (some false) else (if a0_3 < 0 then (some false) else (if a0_3 > 1 then (some false) else (if a0_2 < 0 then (some false) else (if a0_2 > 65535 then (some false) else (some (decide ((wrap64 (a0_2 + (wrap64 (a0_3 * (wrap64 (a0_1 - a0_0)))))) ≤ 65535)))))))))) = some r := h
 clear h
 by_cases c2 : a0_0 < 0
 ·
  rw [if_pos c2] at H
  have c2b0 : decide (a0_0 < 0) = true := decide_eq_true c2
  clear c2
  obtain rfl := Option.some.inj H
  go_enter Try.func57, Try.ntmps57
  go_wp2_with (first | ((with_reducible refine gate_dst (N := 1) rfl ?_); refine box_event ?hg (N := 1) ?hd (cs := #[.int .i64 a0_0, .int .i64 a0_1, .int .i64 a0_2, .int .i64 a0_3]) (t := 50) ?hr ?_; (case hd => rfl); (case hg => rfl); (case hr => exact hA); intro gb101 hg w3 hbox hb; have n0_ := Aside0.mk (below_step bA hb); have n1_ := Aside0.mk (hbox); have n2_ := Aside0.mk ((by rw [hg]; exact (below_size bA) : w.heap.size ≤ gb101)); have n3_ := Aside0.mk ((by rw [hg]; exact (below_size bA) : w.heap.size ≤ gb101)); clear HB; have HB := n0_; have BK101 := n1_; have GW101 := n2_; have GE101 := n3_; clear n0_ n1_ n2_ n3_; clear hb hbox hg; have hcz4_0 : w3.cell? ⟨gb101, 0, none⟩ = some (.int .i64 a0_0) := (blk_cell BK101.out 0).trans rfl; have hcz4_1 : w3.cell? ⟨gb101, 1, none⟩ = some (.int .i64 a0_1) := (blk_cell BK101.out 1).trans rfl; have hcz4_2 : w3.cell? ⟨gb101, 2, none⟩ = some (.int .i64 a0_2) := (blk_cell BK101.out 2).trans rfl; have hcz4_3 : w3.cell? ⟨gb101, 3, none⟩ = some (.int .i64 a0_3) := (blk_cell BK101.out 3).trans rfl; have hfz4_0 := blk_frozen BK101.out 0; have hfz4_1 := blk_frozen BK101.out 1; have hfz4_2 := blk_frozen BK101.out 2; have hfz4_3 := blk_frozen BK101.out 3))
  go_ret
  exact ⟨eA, by repeat (first | (with_reducible first | exact HB.out | apply below_alloc | apply pw_below_drewN | apply below_drew1 | refine below_set ?_ GE101.out) | exact HB.out)⟩
 ·
  rw [if_neg c2] at H
  have c2b0 : decide (a0_0 < 0) = false := decide_eq_false c2
  clear c2
  by_cases c5 : a0_1 < a0_0
  ·
   rw [if_pos c5] at H
   have c5b0 : decide (a0_1 < a0_0) = true := decide_eq_true c5
   clear c5
   obtain rfl := Option.some.inj H
   go_enter Try.func57, Try.ntmps57
   go_wp2_with (first | ((with_reducible refine gate_dst (N := 1) rfl ?_); refine box_event ?hg (N := 1) ?hd (cs := #[.int .i64 a0_0, .int .i64 a0_1, .int .i64 a0_2, .int .i64 a0_3]) (t := 50) ?hr ?_; (case hd => rfl); (case hg => rfl); (case hr => exact hA); intro gb101 hg w6 hbox hb; have n0_ := Aside0.mk (below_step bA hb); have n1_ := Aside0.mk (hbox); have n2_ := Aside0.mk ((by rw [hg]; exact (below_size bA) : w.heap.size ≤ gb101)); have n3_ := Aside0.mk ((by rw [hg]; exact (below_size bA) : w.heap.size ≤ gb101)); clear HB; have HB := n0_; have BK101 := n1_; have GW101 := n2_; have GE101 := n3_; clear n0_ n1_ n2_ n3_; clear hb hbox hg; have hcz7_0 : w6.cell? ⟨gb101, 0, none⟩ = some (.int .i64 a0_0) := (blk_cell BK101.out 0).trans rfl; have hcz7_1 : w6.cell? ⟨gb101, 1, none⟩ = some (.int .i64 a0_1) := (blk_cell BK101.out 1).trans rfl; have hcz7_2 : w6.cell? ⟨gb101, 2, none⟩ = some (.int .i64 a0_2) := (blk_cell BK101.out 2).trans rfl; have hcz7_3 : w6.cell? ⟨gb101, 3, none⟩ = some (.int .i64 a0_3) := (blk_cell BK101.out 3).trans rfl; have hfz7_0 := blk_frozen BK101.out 0; have hfz7_1 := blk_frozen BK101.out 1; have hfz7_2 := blk_frozen BK101.out 2; have hfz7_3 := blk_frozen BK101.out 3))
   go_ret
   exact ⟨eA, by repeat (first | (with_reducible first | exact HB.out | apply below_alloc | apply pw_below_drewN | apply below_drew1 | refine below_set ?_ GE101.out) | exact HB.out)⟩
  ·
   rw [if_neg c5] at H
   have c5b0 : decide (a0_1 < a0_0) = false := decide_eq_false c5
   clear c5
   by_cases c8 : a0_1 > 1114111
   ·
    rw [if_pos c8] at H
    have c8b0 : decide (1114111 < a0_1) = true := decide_eq_true c8
    clear c8
    obtain rfl := Option.some.inj H
    go_enter Try.func57, Try.ntmps57
    go_wp2_with (first | ((with_reducible refine gate_dst (N := 1) rfl ?_); refine box_event ?hg (N := 1) ?hd (cs := #[.int .i64 a0_0, .int .i64 a0_1, .int .i64 a0_2, .int .i64 a0_3]) (t := 50) ?hr ?_; (case hd => rfl); (case hg => rfl); (case hr => exact hA); intro gb101 hg w9 hbox hb; have n0_ := Aside0.mk (below_step bA hb); have n1_ := Aside0.mk (hbox); have n2_ := Aside0.mk ((by rw [hg]; exact (below_size bA) : w.heap.size ≤ gb101)); have n3_ := Aside0.mk ((by rw [hg]; exact (below_size bA) : w.heap.size ≤ gb101)); clear HB; have HB := n0_; have BK101 := n1_; have GW101 := n2_; have GE101 := n3_; clear n0_ n1_ n2_ n3_; clear hb hbox hg; have hcz10_0 : w9.cell? ⟨gb101, 0, none⟩ = some (.int .i64 a0_0) := (blk_cell BK101.out 0).trans rfl; have hcz10_1 : w9.cell? ⟨gb101, 1, none⟩ = some (.int .i64 a0_1) := (blk_cell BK101.out 1).trans rfl; have hcz10_2 : w9.cell? ⟨gb101, 2, none⟩ = some (.int .i64 a0_2) := (blk_cell BK101.out 2).trans rfl; have hcz10_3 : w9.cell? ⟨gb101, 3, none⟩ = some (.int .i64 a0_3) := (blk_cell BK101.out 3).trans rfl; have hfz10_0 := blk_frozen BK101.out 0; have hfz10_1 := blk_frozen BK101.out 1; have hfz10_2 := blk_frozen BK101.out 2; have hfz10_3 := blk_frozen BK101.out 3))
    go_ret
    exact ⟨eA, by repeat (first | (with_reducible first | exact HB.out | apply below_alloc | apply pw_below_drewN | apply below_drew1 | refine below_set ?_ GE101.out) | exact HB.out)⟩
   ·
    rw [if_neg c8] at H
    have c8b0 : decide (1114111 < a0_1) = false := decide_eq_false c8
    clear c8
    by_cases c11 : a0_3 < 0
    ·
     rw [if_pos c11] at H
     have c11b0 : decide (a0_3 < 0) = true := decide_eq_true c11
     clear c11
     obtain rfl := Option.some.inj H
     go_enter Try.func57, Try.ntmps57
     go_wp2_with (first | ((with_reducible refine gate_dst (N := 1) rfl ?_); refine box_event ?hg (N := 1) ?hd (cs := #[.int .i64 a0_0, .int .i64 a0_1, .int .i64 a0_2, .int .i64 a0_3]) (t := 50) ?hr ?_; (case hd => rfl); (case hg => rfl); (case hr => exact hA); intro gb101 hg w12 hbox hb; have n0_ := Aside0.mk (below_step bA hb); have n1_ := Aside0.mk (hbox); have n2_ := Aside0.mk ((by rw [hg]; exact (below_size bA) : w.heap.size ≤ gb101)); have n3_ := Aside0.mk ((by rw [hg]; exact (below_size bA) : w.heap.size ≤ gb101)); clear HB; have HB := n0_; have BK101 := n1_; have GW101 := n2_; have GE101 := n3_; clear n0_ n1_ n2_ n3_; clear hb hbox hg; have hcz13_0 : w12.cell? ⟨gb101, 0, none⟩ = some (.int .i64 a0_0) := (blk_cell BK101.out 0).trans rfl; have hcz13_1 : w12.cell? ⟨gb101, 1, none⟩ = some (.int .i64 a0_1) := (blk_cell BK101.out 1).trans rfl; have hcz13_2 : w12.cell? ⟨gb101, 2, none⟩ = some (.int .i64 a0_2) := (blk_cell BK101.out 2).trans rfl; have hcz13_3 : w12.cell? ⟨gb101, 3, none⟩ = some (.int .i64 a0_3) := (blk_cell BK101.out 3).trans rfl; have hfz13_0 := blk_frozen BK101.out 0; have hfz13_1 := blk_frozen BK101.out 1; have hfz13_2 := blk_frozen BK101.out 2; have hfz13_3 := blk_frozen BK101.out 3))
     go_ret
     exact ⟨eA, by repeat (first | (with_reducible first | exact HB.out | apply below_alloc | apply pw_below_drewN | apply below_drew1 | refine below_set ?_ GE101.out) | exact HB.out)⟩
    ·
     rw [if_neg c11] at H
     have c11b0 : decide (a0_3 < 0) = false := decide_eq_false c11
     clear c11
     by_cases c14 : a0_3 > 1
     ·
      rw [if_pos c14] at H
      have c14b0 : decide (1 < a0_3) = true := decide_eq_true c14
      clear c14
      obtain rfl := Option.some.inj H
      go_enter Try.func57, Try.ntmps57
      go_wp2_with (first | ((with_reducible refine gate_dst (N := 1) rfl ?_); refine box_event ?hg (N := 1) ?hd (cs := #[.int .i64 a0_0, .int .i64 a0_1, .int .i64 a0_2, .int .i64 a0_3]) (t := 50) ?hr ?_; (case hd => rfl); (case hg => rfl); (case hr => exact hA); intro gb101 hg w15 hbox hb; have n0_ := Aside0.mk (below_step bA hb); have n1_ := Aside0.mk (hbox); have n2_ := Aside0.mk ((by rw [hg]; exact (below_size bA) : w.heap.size ≤ gb101)); have n3_ := Aside0.mk ((by rw [hg]; exact (below_size bA) : w.heap.size ≤ gb101)); clear HB; have HB := n0_; have BK101 := n1_; have GW101 := n2_; have GE101 := n3_; clear n0_ n1_ n2_ n3_; clear hb hbox hg; have hcz16_0 : w15.cell? ⟨gb101, 0, none⟩ = some (.int .i64 a0_0) := (blk_cell BK101.out 0).trans rfl; have hcz16_1 : w15.cell? ⟨gb101, 1, none⟩ = some (.int .i64 a0_1) := (blk_cell BK101.out 1).trans rfl; have hcz16_2 : w15.cell? ⟨gb101, 2, none⟩ = some (.int .i64 a0_2) := (blk_cell BK101.out 2).trans rfl; have hcz16_3 : w15.cell? ⟨gb101, 3, none⟩ = some (.int .i64 a0_3) := (blk_cell BK101.out 3).trans rfl; have hfz16_0 := blk_frozen BK101.out 0; have hfz16_1 := blk_frozen BK101.out 1; have hfz16_2 := blk_frozen BK101.out 2; have hfz16_3 := blk_frozen BK101.out 3))
      go_ret
      exact ⟨eA, by repeat (first | (with_reducible first | exact HB.out | apply below_alloc | apply pw_below_drewN | apply below_drew1 | refine below_set ?_ GE101.out) | exact HB.out)⟩
     ·
      rw [if_neg c14] at H
      have c14b0 : decide (1 < a0_3) = false := decide_eq_false c14
      clear c14
      by_cases c17 : a0_2 < 0
      ·
       rw [if_pos c17] at H
       have c17b0 : decide (a0_2 < 0) = true := decide_eq_true c17
       clear c17
       obtain rfl := Option.some.inj H
       go_enter Try.func57, Try.ntmps57
       go_wp2_with (first | ((with_reducible refine gate_dst (N := 1) rfl ?_); refine box_event ?hg (N := 1) ?hd (cs := #[.int .i64 a0_0, .int .i64 a0_1, .int .i64 a0_2, .int .i64 a0_3]) (t := 50) ?hr ?_; (case hd => rfl); (case hg => rfl); (case hr => exact hA); intro gb101 hg w18 hbox hb; have n0_ := Aside0.mk (below_step bA hb); have n1_ := Aside0.mk (hbox); have n2_ := Aside0.mk ((by rw [hg]; exact (below_size bA) : w.heap.size ≤ gb101)); have n3_ := Aside0.mk ((by rw [hg]; exact (below_size bA) : w.heap.size ≤ gb101)); clear HB; have HB := n0_; have BK101 := n1_; have GW101 := n2_; have GE101 := n3_; clear n0_ n1_ n2_ n3_; clear hb hbox hg; have hcz19_0 : w18.cell? ⟨gb101, 0, none⟩ = some (.int .i64 a0_0) := (blk_cell BK101.out 0).trans rfl; have hcz19_1 : w18.cell? ⟨gb101, 1, none⟩ = some (.int .i64 a0_1) := (blk_cell BK101.out 1).trans rfl; have hcz19_2 : w18.cell? ⟨gb101, 2, none⟩ = some (.int .i64 a0_2) := (blk_cell BK101.out 2).trans rfl; have hcz19_3 : w18.cell? ⟨gb101, 3, none⟩ = some (.int .i64 a0_3) := (blk_cell BK101.out 3).trans rfl; have hfz19_0 := blk_frozen BK101.out 0; have hfz19_1 := blk_frozen BK101.out 1; have hfz19_2 := blk_frozen BK101.out 2; have hfz19_3 := blk_frozen BK101.out 3))
       go_ret
       exact ⟨eA, by repeat (first | (with_reducible first | exact HB.out | apply below_alloc | apply pw_below_drewN | apply below_drew1 | refine below_set ?_ GE101.out) | exact HB.out)⟩
      ·
       rw [if_neg c17] at H
       have c17b0 : decide (a0_2 < 0) = false := decide_eq_false c17
       clear c17
       by_cases c20 : a0_2 > 65535
       ·
        rw [if_pos c20] at H
        have c20b0 : decide (65535 < a0_2) = true := decide_eq_true c20
        clear c20
        obtain rfl := Option.some.inj H
        go_enter Try.func57, Try.ntmps57
        go_wp2_with (first | ((with_reducible refine gate_dst (N := 1) rfl ?_); refine box_event ?hg (N := 1) ?hd (cs := #[.int .i64 a0_0, .int .i64 a0_1, .int .i64 a0_2, .int .i64 a0_3]) (t := 50) ?hr ?_; (case hd => rfl); (case hg => rfl); (case hr => exact hA); intro gb101 hg w21 hbox hb; have n0_ := Aside0.mk (below_step bA hb); have n1_ := Aside0.mk (hbox); have n2_ := Aside0.mk ((by rw [hg]; exact (below_size bA) : w.heap.size ≤ gb101)); have n3_ := Aside0.mk ((by rw [hg]; exact (below_size bA) : w.heap.size ≤ gb101)); clear HB; have HB := n0_; have BK101 := n1_; have GW101 := n2_; have GE101 := n3_; clear n0_ n1_ n2_ n3_; clear hb hbox hg; have hcz22_0 : w21.cell? ⟨gb101, 0, none⟩ = some (.int .i64 a0_0) := (blk_cell BK101.out 0).trans rfl; have hcz22_1 : w21.cell? ⟨gb101, 1, none⟩ = some (.int .i64 a0_1) := (blk_cell BK101.out 1).trans rfl; have hcz22_2 : w21.cell? ⟨gb101, 2, none⟩ = some (.int .i64 a0_2) := (blk_cell BK101.out 2).trans rfl; have hcz22_3 : w21.cell? ⟨gb101, 3, none⟩ = some (.int .i64 a0_3) := (blk_cell BK101.out 3).trans rfl; have hfz22_0 := blk_frozen BK101.out 0; have hfz22_1 := blk_frozen BK101.out 1; have hfz22_2 := blk_frozen BK101.out 2; have hfz22_3 := blk_frozen BK101.out 3))
        go_ret
        exact ⟨eA, by repeat (first | (with_reducible first | exact HB.out | apply below_alloc | apply pw_below_drewN | apply below_drew1 | refine below_set ?_ GE101.out) | exact HB.out)⟩
       ·
        rw [if_neg c20] at H
        have c20b0 : decide (65535 < a0_2) = false := decide_eq_false c20
        clear c20
        obtain rfl := Option.some.inj H
        go_enter Try.func57, Try.ntmps57
        go_wp2_with (first | ((with_reducible refine gate_dst (N := 1) rfl ?_); refine box_event ?hg (N := 1) ?hd (cs := #[.int .i64 a0_0, .int .i64 a0_1, .int .i64 a0_2, .int .i64 a0_3]) (t := 50) ?hr ?_; (case hd => rfl); (case hg => rfl); (case hr => exact hA); intro gb101 hg w23 hbox hb; have n0_ := Aside0.mk (below_step bA hb); have n1_ := Aside0.mk (hbox); have n2_ := Aside0.mk ((by rw [hg]; exact (below_size bA) : w.heap.size ≤ gb101)); have n3_ := Aside0.mk ((by rw [hg]; exact (below_size bA) : w.heap.size ≤ gb101)); clear HB; have HB := n0_; have BK101 := n1_; have GW101 := n2_; have GE101 := n3_; clear n0_ n1_ n2_ n3_; clear hb hbox hg; have hcz24_0 : w23.cell? ⟨gb101, 0, none⟩ = some (.int .i64 a0_0) := (blk_cell BK101.out 0).trans rfl; have hcz24_1 : w23.cell? ⟨gb101, 1, none⟩ = some (.int .i64 a0_1) := (blk_cell BK101.out 1).trans rfl; have hcz24_2 : w23.cell? ⟨gb101, 2, none⟩ = some (.int .i64 a0_2) := (blk_cell BK101.out 2).trans rfl; have hcz24_3 : w23.cell? ⟨gb101, 3, none⟩ = some (.int .i64 a0_3) := (blk_cell BK101.out 3).trans rfl; have hfz24_0 := blk_frozen BK101.out 0; have hfz24_1 := blk_frozen BK101.out 1; have hfz24_2 := blk_frozen BK101.out 2; have hfz24_3 := blk_frozen BK101.out 3))
        go_ret
        exact ⟨eA, by repeat (first | (with_reducible first | exact HB.out | apply below_alloc | apply pw_below_drewN | apply below_drew1 | refine below_set ?_ GE101.out) | exact HB.out)⟩
mutual
def vinculumref08_Is.l0 : Nat → List (S50) → Int → Option (Bool)
 | 0, _, _ => none
 | k + 1, x0, x3 => if x3 < (x0.length : Int) then (vinculumref08_Is.j1 k x0 x3 (decide ((x0.length : Int) ≤ 65536))) else (vinculumref08_Is.j1 k x0 x3 false)
def vinculumref08_Is.j1 : Nat → List (S50) → Int → Bool → Option (Bool)
 | 0, _, _, _ => none
 | k + 1, x0, x3, x12 => if x12 = true then (if 0 ≤ x3 then (if x3 < (x0.length : Int) then ((vinculumref08_one.f ((rd_T50 x0 x3).f0) ((rd_T50 x0 x3).f1) ((rd_T50 x0 x3).f2) ((rd_T50 x0 x3).f3)).bind fun t103 => (if t103 = true then (if x3 > 0 then (if 0 ≤ (wrap64 (x3 - 1)) then (if (wrap64 (x3 - 1)) < (x0.length : Int) then (if ((rd_T50 x0 x3).f0) ≤ ((rd_T50 x0 (wrap64 (x3 - 1))).f1) then (some false) else (vinculumref08_Is.l0 k x0 (wrap64 (x3 + 1)))) else (none)) else (none)) else (vinculumref08_Is.l0 k x0 (wrap64 (x3 + 1)))) else (some false))) else (none)) else (none)) else (some (decide ((x0.length : Int) ≤ 65536)))
end
def vinculumref08_Is.f (k : Nat) (l0 : List (S50)) : Option (Bool) := vinculumref08_Is.l0 k l0 0
def vinculumref08_Is.T4 : Bool × List (List Nat × List Nat) := (true, [([], []), ([], []), ([0, 1], [0, 1]), ([2], [2]), ([3], [3]), ([4], [4]), ([5, 4], [5]), ([6], [6]), ([7, 6], [6, 7]), ([8, 6, 6], [6, 8]), ([9], [9]), ([9], [9]), ([10, 11, 9], [9, 10, 11]), ([12, 9], [9, 12]), ([13, 9], [9, 13]), ([9], [9]), ([9], [9]), ([16, 9], [9, 16]), ([15, 17, 9], [9, 15, 17]), ([18, 9], [9, 18]), ([19, 9], [9, 19]), ([14, 20, 9], [9, 14, 20]), ([9, 21, 6], [6, 9, 21]), ([6, 22], [6, 22])])
def vinculumref08_Is.B4 : List Nat := [0, 0, 3, 7, 15, 31, 63, 127, 255, 511, 1023, 1023, 4095, 8191, 16383, 1023, 1023, 66559, 230399, 492543, 1016831, 2097151, 4194303, 8388607]
theorem vinculumref08_Is.tab4 : rtab .any (opsOf Try.f33 4) = vinculumref08_Is.T4 := by kernel_rfl
theorem vinculumref08_Is.bits4 : waitsOk vinculumref08_Is.T4.2 vinculumref08_Is.B4 = true := by kernel_rfl
set_option maxHeartbeats 8000000 in
set_option maxRecDepth 100000 in
theorem vinculumref08_Is.calls (k : Nat) (A0 : Option Addr) (c0 : Nat) (l0 : List (S50)) (r : Bool) (w : World) (hr0 : Kd.C k50 w A0 l0.length l0) (hc0 : l0.length ≤ c0) (h : vinculumref08_Is.f k l0 = some r) :
  Calls Try.prog 33 #[.slice A0 l0.length c0] w fun e w' => e = .returned (.bool r) ∧ Below w.heap.size w w' := by
 have hu50 := Try.underlying50
 have HR0 := Aside0.mk hr0
 have HC0 := Aside0.mk hc0
 clear hr0 hc0
 have HB := Aside0.mk (Below.refl w.heap.size w)
 have H : (vinculumref08_Is.l0 k l0 0) = some r := h
 clear h
 have H' := Aside0.mk H
 clear H
 go_enter Try.func33, Try.ntmps33
 go_wp2
 go_loopg [3] k (fun kq v3 w' => ∃ (x3_1 : Int), v3 = .int .i64 x3_1 ∧ Aside0 (vinculumref08_Is.l0 kq l0 x3_1 = some r) ∧ Aside0 (kq ≤ k) ∧ Aside0 (Below w.heap.size w w'))
 case atStart => exact ⟨(0), gA, H', ⟨Nat.le_refl _⟩, ⟨bA⟩⟩
 case round =>
  clear H'
  obtain ⟨x3_1, rfl, HA, HK1, HB⟩ := hrel
  cases gk with
  | zero => exact absurd HA.out (by simp [vinculumref08_Is.l0])
  | succ k1 =>
   have H := HA.out
   clear HA
   simp only [vinculumref08_Is.l0] at H
   have HC2 := Aside0.mk H
   clear H
   go_upto_region 2 with (fail)
   go_cut [12] (fun v12 wc => ∃ (kq : Nat) (x12_1 : Bool), v12 = .bool x12_1 ∧ Aside0 (vinculumref08_Is.j1 kq l0 x3_1 x12_1 = some r) ∧ Aside0 (kq ≤ k1) ∧ Aside0 (Below w.heap.size w wc))
   case first =>
    have H := HC2.out
    clear HC2
    by_cases c3 : x3_1 < (l0.length : Int)
    ·
     rw [if_pos c3] at H
     have c3b0 : decide (x3_1 < (l0.length : Int)) = true := decide_eq_true c3
     clear c3
     (first | rw [c3b0] | (simp only [i64_w, i32_w]; rw [c3b0]) | skip)
     have H' := Aside0.mk H
     clear H
     go_wp2
     go_meet
     case rel => exact ⟨_, (decide ((l0.length : Int) ≤ 65536)), gA, H', ⟨by have := HK1.out; first | omega | exact Nat.le_refl _⟩, ⟨bA⟩⟩
    ·
     rw [if_neg c3] at H
     have c3b0 : decide (x3_1 < (l0.length : Int)) = false := decide_eq_false c3
     clear c3
     (first | rw [c3b0] | (simp only [i64_w, i32_w]; rw [c3b0]) | skip)
     have H' := Aside0.mk H
     clear H
     go_wp2
     go_meet
     case rel => exact ⟨_, (false), gA, H', ⟨by have := HK1.out; first | omega | exact Nat.le_refl _⟩, ⟨bA⟩⟩
   case rest =>
    clear HC2
    try clear p2
    try clear c3
    try clear c3b0
    obtain ⟨kq, x12_1, rfl, HA, HJ1, HB⟩ := hcut
    cases kq with
    | zero => exact absurd HA.out (by simp [vinculumref08_Is.j1])
    | succ kj1 =>
     have H := HA.out
     clear HA
     simp only [vinculumref08_Is.j1] at H
     by_cases c4 : x12_1 = true
     ·
      subst c4
      rw [if_pos rfl] at H
      by_cases c5 : 0 ≤ x3_1
      ·
       rw [if_pos c5] at H
       have c5b0 : decide (0 ≤ x3_1) = true := decide_eq_true c5
       clear c5
       by_cases c6 : x3_1 < (l0.length : Int)
       ·
        rw [if_pos c6] at H
        have c6b0 : decide (x3_1 < (l0.length : Int)) = true := decide_eq_true c6
        clear c6
        replace H := Option.bind_eq_some_iff.mp H
        obtain ⟨t103, A70, H⟩ := H
        try dsimp only at H
        have A7 := Aside0.mk A70
        clear A70
        by_cases c8 : t103 = true
        ·
         subst c8
         rw [if_pos rfl] at H
         by_cases c9 : x3_1 > 0
         ·
          rw [if_pos c9] at H
          have c9b0 : decide (0 < x3_1) = true := decide_eq_true c9
          clear c9
          obtain ⟨ji10, hji10⟩ : ∃ j_ : Int, (wrap64 (x3_1 - 1)) = j_ := ⟨_, rfl⟩
          replace H : (if 0 ≤ (ji10) then (if (ji10) < (l0.length : Int) then (if ((rd_T50 l0 x3_1).f0) ≤ ((rd_T50 l0 (ji10)).f1) then (some false) else (vinculumref08_Is.l0 kj1 l0 (wrap64 (x3_1 + 1)))) else (none)) else (none)) = some r := by first | (rw [hji10] at H; exact H) | (simp only [hji10] at H ⊢; exact H)
          (try rw [hji10] at A7)
          have hji10w : (IntKind.i64.wrap (x3_1 - 1)) = ji10 := (i64_w _).trans hji10
          by_cases c11 : 0 ≤ (ji10)
          ·
           rw [if_pos c11] at H
           have c11b0 : decide (0 ≤ (ji10)) = true := decide_eq_true c11
           clear c11
           by_cases c12 : (ji10) < (l0.length : Int)
           ·
            rw [if_pos c12] at H
            have c12b0 : decide ((ji10) < (l0.length : Int)) = true := decide_eq_true c12
            clear c12
            by_cases c13 : ((rd_T50 l0 x3_1).f0) ≤ ((rd_T50 l0 (ji10)).f1)
            ·
             rw [if_pos c13] at H
             have c13b0 : decide (((rd_T50 l0 x3_1).f0) ≤ ((rd_T50 l0 (ji10)).f1)) = true := decide_eq_true c13
             clear c13
             obtain rfl := Option.some.inj H
             try go_wp2
             have n0_ := Aside0.mk (below_drew1 HB.out)
             clear HB
             have HB := n0_
             clear n0_
             have p102 : 0 ≤ (x3_1 : Int) := of_decide_eq_true sA
             have q102 : x3_1 < (l0.length : Int) := of_decide_eq_true sA
             obtain ⟨ad102, e102, hx102_0, hx102_1, hx102_2, hx102_3⟩ := at_T50 HR0.out x3_1 p102 q102
             have hw102_3 := hx102_3
             have hw102_2 := hx102_2
             have hw102_1 := hx102_1
             have hw102_0 := hx102_0
             cases e102
             replace hx102_0 := (HB.out.cell (World.block_lt_of_cell? w _ hx102_0)).trans hx102_0
             replace hx102_1 := (HB.out.cell (World.block_lt_of_cell? w _ hx102_1)).trans hx102_1
             replace hx102_2 := (HB.out.cell (World.block_lt_of_cell? w _ hx102_2)).trans hx102_2
             replace hx102_3 := (HB.out.cell (World.block_lt_of_cell? w _ hx102_3)).trans hx102_3
             replace p102 := eq_true p102
             replace q102 := eq_true q102
             have p104 : 0 ≤ (x3_1 : Int) := of_decide_eq_true sA
             have q104 : x3_1 < (l0.length : Int) := of_decide_eq_true sA
             obtain ⟨ad104, e104, hx104_0, hx104_1, hx104_2, hx104_3⟩ := at_T50 HR0.out x3_1 p104 q104
             have hw104_3 := hx104_3
             have hw104_2 := hx104_2
             have hw104_1 := hx104_1
             have hw104_0 := hx104_0
             obtain rfl : ad102 = ad104 := (by injection e104)
             replace hx104_0 := (HB.out.cell (World.block_lt_of_cell? w _ hx104_0)).trans hx104_0
             replace hx104_1 := (HB.out.cell (World.block_lt_of_cell? w _ hx104_1)).trans hx104_1
             replace hx104_2 := (HB.out.cell (World.block_lt_of_cell? w _ hx104_2)).trans hx104_2
             replace hx104_3 := (HB.out.cell (World.block_lt_of_cell? w _ hx104_3)).trans hx104_3
             replace p104 := eq_true p104
             replace q104 := eq_true q104
             have p105 : 0 ≤ ((ji10) : Int) := of_decide_eq_true sA
             have q105 : (ji10) < (l0.length : Int) := of_decide_eq_true sA
             obtain ⟨ad105, e105, hx105_0, hx105_1, hx105_2, hx105_3⟩ := at_T50 HR0.out (ji10) p105 q105
             have hw105_3 := hx105_3
             have hw105_2 := hx105_2
             have hw105_1 := hx105_1
             have hw105_0 := hx105_0
             obtain rfl : ad102 = ad105 := (by injection e105)
             replace hx105_0 := (HB.out.cell (World.block_lt_of_cell? w _ hx105_0)).trans hx105_0
             replace hx105_1 := (HB.out.cell (World.block_lt_of_cell? w _ hx105_1)).trans hx105_1
             replace hx105_2 := (HB.out.cell (World.block_lt_of_cell? w _ hx105_2)).trans hx105_2
             replace hx105_3 := (HB.out.cell (World.block_lt_of_cell? w _ hx105_3)).trans hx105_3
             replace p105 := eq_true p105
             replace q105 := eq_true q105
             refine start_ (n := 24) (S := fun w' => w'.cell? (ad102.add ((x3_1).toNat * 4)) = some (.int .i64 ((rd_T50 l0 x3_1).f0)) ∧ w'.cell? ⟨(ad102.add ((x3_1).toNat * 4)).block, (ad102.add ((x3_1).toNat * 4)).off + 1, none⟩ = some (.int .i64 ((rd_T50 l0 x3_1).f1)) ∧ w'.cell? ⟨(ad102.add ((x3_1).toNat * 4)).block, (ad102.add ((x3_1).toNat * 4)).off + 2, none⟩ = some (.int .i64 ((rd_T50 l0 x3_1).f2)) ∧ w'.cell? ⟨(ad102.add ((x3_1).toNat * 4)).block, (ad102.add ((x3_1).toNat * 4)).off + 3, none⟩ = some (.int .i64 ((rd_T50 l0 x3_1).f3)) ∧ w'.cell? (ad102.add ((x3_1).toNat * 4)) = some (.int .i64 ((rd_T50 l0 x3_1).f0)) ∧ w'.cell? ⟨(ad102.add ((x3_1).toNat * 4)).block, (ad102.add ((x3_1).toNat * 4)).off + 1, none⟩ = some (.int .i64 ((rd_T50 l0 x3_1).f1)) ∧ w'.cell? ⟨(ad102.add ((x3_1).toNat * 4)).block, (ad102.add ((x3_1).toNat * 4)).off + 2, none⟩ = some (.int .i64 ((rd_T50 l0 x3_1).f2)) ∧ w'.cell? ⟨(ad102.add ((x3_1).toNat * 4)).block, (ad102.add ((x3_1).toNat * 4)).off + 3, none⟩ = some (.int .i64 ((rd_T50 l0 x3_1).f3)) ∧ w'.cell? (ad102.add (((ji10)).toNat * 4)) = some (.int .i64 ((rd_T50 l0 (ji10)).f0)) ∧ w'.cell? ⟨(ad102.add (((ji10)).toNat * 4)).block, (ad102.add (((ji10)).toNat * 4)).off + 1, none⟩ = some (.int .i64 ((rd_T50 l0 (ji10)).f1)) ∧ w'.cell? ⟨(ad102.add (((ji10)).toNat * 4)).block, (ad102.add (((ji10)).toNat * 4)).off + 2, none⟩ = some (.int .i64 ((rd_T50 l0 (ji10)).f2)) ∧ w'.cell? ⟨(ad102.add (((ji10)).toNat * 4)).block, (ad102.add (((ji10)).toNat * 4)).off + 3, none⟩ = some (.int .i64 ((rd_T50 l0 (ji10)).f3))) (ds := []) #[false, false, false, false, false, false, false, false, false, false, false, false, false, false, false, false, false, false, false, false, false, false, false, false] (by kernel_rfl) rfl rfl ⟨((HB.out.cell (World.block_lt_of_cell? w _ hw102_0)).trans hw102_0), ((HB.out.cell (World.block_lt_of_cell? w _ hw102_1)).trans hw102_1), ((HB.out.cell (World.block_lt_of_cell? w _ hw102_2)).trans hw102_2), ((HB.out.cell (World.block_lt_of_cell? w _ hw102_3)).trans hw102_3), ((HB.out.cell (World.block_lt_of_cell? w _ hw104_0)).trans hw104_0), ((HB.out.cell (World.block_lt_of_cell? w _ hw104_1)).trans hw104_1), ((HB.out.cell (World.block_lt_of_cell? w _ hw104_2)).trans hw104_2), ((HB.out.cell (World.block_lt_of_cell? w _ hw104_3)).trans hw104_3), ((HB.out.cell (World.block_lt_of_cell? w _ hw105_0)).trans hw105_0), ((HB.out.cell (World.block_lt_of_cell? w _ hw105_1)).trans hw105_1), ((HB.out.cell (World.block_lt_of_cell? w _ hw105_2)).trans hw105_2), ((HB.out.cell (World.block_lt_of_cell? w _ hw105_3)).trans hw105_3)⟩ (fun hHeld => ?_); refine with_tabW vinculumref08_Is.tab4 vinculumref08_Is.bits4 (fun HT_ HW_ => ?_)
             generalize wc.drew = w14 at HB hx102_0 hx102_1 hx102_2 hx102_3 hx104_0 hx104_1 hx104_2 hx104_3 hx105_0 hx105_1 hx105_2 hx105_3 hHeld ⊢
             refine pT_ HT_.out 0 15 ?_
             refine pT_ HT_.out 1 16 ?_
             refine pT_ HT_.out 2 17 ?_
             refine tW_ HT_.out HW_.out 3 18 hHeld ?_
             refine oT_ 4 19 HT_.out (fun K hK => ?_)
             refine goes_ Try.func57 (by kernel_rfl) rfl #[.agg #[.int .i64 ((rd_T50 l0 x3_1).f0), .int .i64 ((rd_T50 l0 x3_1).f1), .int .i64 ((rd_T50 l0 x3_1).f2), .int .i64 ((rd_T50 l0 x3_1).f3)]] (by rfl) rfl rfl aA ?_
             with_reducible refine (vinculumref08_one.calls ((rd_T50 l0 x3_1).f0) ((rd_T50 l0 x3_1).f1) ((rd_T50 l0 x3_1).f2) ((rd_T50 l0 x3_1).f3) true _ A7.out).mono ?_
             rintro e w15 ⟨rfl, hb⟩
             refine ⟨_, rfl, ?_⟩
             have n0_ := Aside0.mk (below_step bA hb)
             clear HB
             have HB := n0_
             clear n0_
             (try clear hb)
             refine hK.out _ _ ⟨((HB.out.cell (World.block_lt_of_cell? w _ hw102_0)).trans hw102_0), ((HB.out.cell (World.block_lt_of_cell? w _ hw102_1)).trans hw102_1), ((HB.out.cell (World.block_lt_of_cell? w _ hw102_2)).trans hw102_2), ((HB.out.cell (World.block_lt_of_cell? w _ hw102_3)).trans hw102_3), ((HB.out.cell (World.block_lt_of_cell? w _ hw104_0)).trans hw104_0), ((HB.out.cell (World.block_lt_of_cell? w _ hw104_1)).trans hw104_1), ((HB.out.cell (World.block_lt_of_cell? w _ hw104_2)).trans hw104_2), ((HB.out.cell (World.block_lt_of_cell? w _ hw104_3)).trans hw104_3), ((HB.out.cell (World.block_lt_of_cell? w _ hw105_0)).trans hw105_0), ((HB.out.cell (World.block_lt_of_cell? w _ hw105_1)).trans hw105_1), ((HB.out.cell (World.block_lt_of_cell? w _ hw105_2)).trans hw105_2), ((HB.out.cell (World.block_lt_of_cell? w _ hw105_3)).trans hw105_3)⟩ (fun hHeld => ?_)
             clear hK K
             refine nS_ ?_
             refine pT_ HT_.out 5 20 ?_
             refine pT_ HT_.out 6 21 ?_
             refine pT_ HT_.out 7 22 ?_
             refine pT_ HT_.out 8 23 ?_
             refine pT_ HT_.out 9 24 ?_
             refine pT_ HT_.out 10 25 ?_
             refine pT_ HT_.out 11 26 ?_
             refine pT_ HT_.out 12 27 ?_
             refine pT_ HT_.out 13 28 ?_
             refine pT_ HT_.out 15 30 ?_
             refine pT_ HT_.out 16 31 ?_
             refine pT_ HT_.out 17 32 ?_
             refine pT_ HT_.out 18 33 ?_
             refine pT_ HT_.out 19 34 ?_
             refine tW_ HT_.out HW_.out 14 29 hHeld ?_
             refine tW_ HT_.out HW_.out 20 35 hHeld ?_
             refine pT_ HT_.out 21 36 ?_
             refine pT_ HT_.out 22 37 ?_
             refine pT_ HT_.out 23 38 ?_
             refine done_ (done_of HT_.out (by kernel_rfl)) ?_
             try go_wp2
             go_ret
             exact ⟨by first | rfl | (simp [errW_none, errW_some] <;> rfl) | (simp only [← hji10]; first | rfl | (simp [errW_none, errW_some] <;> rfl)) | (simp [*, errW_none, errW_some] <;> rfl), by repeat (first | (with_reducible first | exact HB.out | apply below_alloc | apply pw_below_drewN | apply below_drew1) | exact HB.out)⟩
            ·
             rw [if_neg c13] at H
             have c13b0 : decide (((rd_T50 l0 x3_1).f0) ≤ ((rd_T50 l0 (ji10)).f1)) = false := decide_eq_false c13
             clear c13
             have H' := Aside0.mk H
             clear H
             try go_wp2
             have n0_ := Aside0.mk (below_drew1 HB.out)
             clear HB
             have HB := n0_
             clear n0_
             have p102 : 0 ≤ (x3_1 : Int) := of_decide_eq_true sA
             have q102 : x3_1 < (l0.length : Int) := of_decide_eq_true sA
             obtain ⟨ad102, e102, hx102_0, hx102_1, hx102_2, hx102_3⟩ := at_T50 HR0.out x3_1 p102 q102
             have hw102_3 := hx102_3
             have hw102_2 := hx102_2
             have hw102_1 := hx102_1
             have hw102_0 := hx102_0
             cases e102
             replace hx102_0 := (HB.out.cell (World.block_lt_of_cell? w _ hx102_0)).trans hx102_0
             replace hx102_1 := (HB.out.cell (World.block_lt_of_cell? w _ hx102_1)).trans hx102_1
             replace hx102_2 := (HB.out.cell (World.block_lt_of_cell? w _ hx102_2)).trans hx102_2
             replace hx102_3 := (HB.out.cell (World.block_lt_of_cell? w _ hx102_3)).trans hx102_3
             replace p102 := eq_true p102
             replace q102 := eq_true q102
             have p104 : 0 ≤ (x3_1 : Int) := of_decide_eq_true sA
             have q104 : x3_1 < (l0.length : Int) := of_decide_eq_true sA
             obtain ⟨ad104, e104, hx104_0, hx104_1, hx104_2, hx104_3⟩ := at_T50 HR0.out x3_1 p104 q104
             have hw104_3 := hx104_3
             have hw104_2 := hx104_2
             have hw104_1 := hx104_1
             have hw104_0 := hx104_0
             obtain rfl : ad102 = ad104 := (by injection e104)
             replace hx104_0 := (HB.out.cell (World.block_lt_of_cell? w _ hx104_0)).trans hx104_0
             replace hx104_1 := (HB.out.cell (World.block_lt_of_cell? w _ hx104_1)).trans hx104_1
             replace hx104_2 := (HB.out.cell (World.block_lt_of_cell? w _ hx104_2)).trans hx104_2
             replace hx104_3 := (HB.out.cell (World.block_lt_of_cell? w _ hx104_3)).trans hx104_3
             replace p104 := eq_true p104
             replace q104 := eq_true q104
             have p105 : 0 ≤ ((ji10) : Int) := of_decide_eq_true sA
             have q105 : (ji10) < (l0.length : Int) := of_decide_eq_true sA
             obtain ⟨ad105, e105, hx105_0, hx105_1, hx105_2, hx105_3⟩ := at_T50 HR0.out (ji10) p105 q105
             have hw105_3 := hx105_3
             have hw105_2 := hx105_2
             have hw105_1 := hx105_1
             have hw105_0 := hx105_0
             obtain rfl : ad102 = ad105 := (by injection e105)
             replace hx105_0 := (HB.out.cell (World.block_lt_of_cell? w _ hx105_0)).trans hx105_0
             replace hx105_1 := (HB.out.cell (World.block_lt_of_cell? w _ hx105_1)).trans hx105_1
             replace hx105_2 := (HB.out.cell (World.block_lt_of_cell? w _ hx105_2)).trans hx105_2
             replace hx105_3 := (HB.out.cell (World.block_lt_of_cell? w _ hx105_3)).trans hx105_3
             replace p105 := eq_true p105
             replace q105 := eq_true q105
             refine start_ (n := 24) (S := fun w' => w'.cell? (ad102.add ((x3_1).toNat * 4)) = some (.int .i64 ((rd_T50 l0 x3_1).f0)) ∧ w'.cell? ⟨(ad102.add ((x3_1).toNat * 4)).block, (ad102.add ((x3_1).toNat * 4)).off + 1, none⟩ = some (.int .i64 ((rd_T50 l0 x3_1).f1)) ∧ w'.cell? ⟨(ad102.add ((x3_1).toNat * 4)).block, (ad102.add ((x3_1).toNat * 4)).off + 2, none⟩ = some (.int .i64 ((rd_T50 l0 x3_1).f2)) ∧ w'.cell? ⟨(ad102.add ((x3_1).toNat * 4)).block, (ad102.add ((x3_1).toNat * 4)).off + 3, none⟩ = some (.int .i64 ((rd_T50 l0 x3_1).f3)) ∧ w'.cell? (ad102.add ((x3_1).toNat * 4)) = some (.int .i64 ((rd_T50 l0 x3_1).f0)) ∧ w'.cell? ⟨(ad102.add ((x3_1).toNat * 4)).block, (ad102.add ((x3_1).toNat * 4)).off + 1, none⟩ = some (.int .i64 ((rd_T50 l0 x3_1).f1)) ∧ w'.cell? ⟨(ad102.add ((x3_1).toNat * 4)).block, (ad102.add ((x3_1).toNat * 4)).off + 2, none⟩ = some (.int .i64 ((rd_T50 l0 x3_1).f2)) ∧ w'.cell? ⟨(ad102.add ((x3_1).toNat * 4)).block, (ad102.add ((x3_1).toNat * 4)).off + 3, none⟩ = some (.int .i64 ((rd_T50 l0 x3_1).f3)) ∧ w'.cell? (ad102.add (((ji10)).toNat * 4)) = some (.int .i64 ((rd_T50 l0 (ji10)).f0)) ∧ w'.cell? ⟨(ad102.add (((ji10)).toNat * 4)).block, (ad102.add (((ji10)).toNat * 4)).off + 1, none⟩ = some (.int .i64 ((rd_T50 l0 (ji10)).f1)) ∧ w'.cell? ⟨(ad102.add (((ji10)).toNat * 4)).block, (ad102.add (((ji10)).toNat * 4)).off + 2, none⟩ = some (.int .i64 ((rd_T50 l0 (ji10)).f2)) ∧ w'.cell? ⟨(ad102.add (((ji10)).toNat * 4)).block, (ad102.add (((ji10)).toNat * 4)).off + 3, none⟩ = some (.int .i64 ((rd_T50 l0 (ji10)).f3))) (ds := []) #[false, false, false, false, false, false, false, false, false, false, false, false, false, false, false, false, false, false, false, false, false, false, false, false] (by kernel_rfl) rfl rfl ⟨((HB.out.cell (World.block_lt_of_cell? w _ hw102_0)).trans hw102_0), ((HB.out.cell (World.block_lt_of_cell? w _ hw102_1)).trans hw102_1), ((HB.out.cell (World.block_lt_of_cell? w _ hw102_2)).trans hw102_2), ((HB.out.cell (World.block_lt_of_cell? w _ hw102_3)).trans hw102_3), ((HB.out.cell (World.block_lt_of_cell? w _ hw104_0)).trans hw104_0), ((HB.out.cell (World.block_lt_of_cell? w _ hw104_1)).trans hw104_1), ((HB.out.cell (World.block_lt_of_cell? w _ hw104_2)).trans hw104_2), ((HB.out.cell (World.block_lt_of_cell? w _ hw104_3)).trans hw104_3), ((HB.out.cell (World.block_lt_of_cell? w _ hw105_0)).trans hw105_0), ((HB.out.cell (World.block_lt_of_cell? w _ hw105_1)).trans hw105_1), ((HB.out.cell (World.block_lt_of_cell? w _ hw105_2)).trans hw105_2), ((HB.out.cell (World.block_lt_of_cell? w _ hw105_3)).trans hw105_3)⟩ (fun hHeld => ?_); refine with_tabW vinculumref08_Is.tab4 vinculumref08_Is.bits4 (fun HT_ HW_ => ?_)
             generalize wc.drew = w16 at HB hx102_0 hx102_1 hx102_2 hx102_3 hx104_0 hx104_1 hx104_2 hx104_3 hx105_0 hx105_1 hx105_2 hx105_3 hHeld ⊢
             refine pT_ HT_.out 0 15 ?_
             refine pT_ HT_.out 1 16 ?_
             refine pT_ HT_.out 2 17 ?_
             refine tW_ HT_.out HW_.out 3 18 hHeld ?_
             refine oT_ 4 19 HT_.out (fun K hK => ?_)
             refine goes_ Try.func57 (by kernel_rfl) rfl #[.agg #[.int .i64 ((rd_T50 l0 x3_1).f0), .int .i64 ((rd_T50 l0 x3_1).f1), .int .i64 ((rd_T50 l0 x3_1).f2), .int .i64 ((rd_T50 l0 x3_1).f3)]] (by rfl) rfl rfl aA ?_
             with_reducible refine (vinculumref08_one.calls ((rd_T50 l0 x3_1).f0) ((rd_T50 l0 x3_1).f1) ((rd_T50 l0 x3_1).f2) ((rd_T50 l0 x3_1).f3) true _ A7.out).mono ?_
             rintro e w17 ⟨rfl, hb⟩
             refine ⟨_, rfl, ?_⟩
             have n0_ := Aside0.mk (below_step bA hb)
             clear HB
             have HB := n0_
             clear n0_
             (try clear hb)
             refine hK.out _ _ ⟨((HB.out.cell (World.block_lt_of_cell? w _ hw102_0)).trans hw102_0), ((HB.out.cell (World.block_lt_of_cell? w _ hw102_1)).trans hw102_1), ((HB.out.cell (World.block_lt_of_cell? w _ hw102_2)).trans hw102_2), ((HB.out.cell (World.block_lt_of_cell? w _ hw102_3)).trans hw102_3), ((HB.out.cell (World.block_lt_of_cell? w _ hw104_0)).trans hw104_0), ((HB.out.cell (World.block_lt_of_cell? w _ hw104_1)).trans hw104_1), ((HB.out.cell (World.block_lt_of_cell? w _ hw104_2)).trans hw104_2), ((HB.out.cell (World.block_lt_of_cell? w _ hw104_3)).trans hw104_3), ((HB.out.cell (World.block_lt_of_cell? w _ hw105_0)).trans hw105_0), ((HB.out.cell (World.block_lt_of_cell? w _ hw105_1)).trans hw105_1), ((HB.out.cell (World.block_lt_of_cell? w _ hw105_2)).trans hw105_2), ((HB.out.cell (World.block_lt_of_cell? w _ hw105_3)).trans hw105_3)⟩ (fun hHeld => ?_)
             clear hK K
             refine nS_ ?_
             refine pT_ HT_.out 5 20 ?_
             refine pT_ HT_.out 6 21 ?_
             refine pT_ HT_.out 7 22 ?_
             refine pT_ HT_.out 8 23 ?_
             refine pT_ HT_.out 9 24 ?_
             refine pT_ HT_.out 10 25 ?_
             refine pT_ HT_.out 11 26 ?_
             refine pT_ HT_.out 12 27 ?_
             refine pT_ HT_.out 13 28 ?_
             refine pT_ HT_.out 15 30 ?_
             refine pT_ HT_.out 16 31 ?_
             refine pT_ HT_.out 17 32 ?_
             refine pT_ HT_.out 18 33 ?_
             refine pT_ HT_.out 19 34 ?_
             refine tW_ HT_.out HW_.out 14 29 hHeld ?_
             refine tW_ HT_.out HW_.out 20 35 hHeld ?_
             refine pT_ HT_.out 21 36 ?_
             refine pT_ HT_.out 22 37 ?_
             refine pT_ HT_.out 23 38 ?_
             refine done_ (done_of HT_.out (by kernel_rfl)) ?_
             try go_wp2
             go_roundg kj1
             case measure => have := HK1.out; have := HJ1.out; omega
             case rel => exact ⟨(wrap64 (x3_1 + 1)), gA, H', ⟨by have := HK1.out; have := HJ1.out; omega⟩, ⟨bA⟩⟩
           ·
            rw [if_neg c12] at H
            exact absurd H (by simp)
          ·
           rw [if_neg c11] at H
           exact absurd H (by simp)
         ·
          rw [if_neg c9] at H
          have c9b0 : decide (0 < x3_1) = false := decide_eq_false c9
          clear c9
          have H' := Aside0.mk H
          clear H
          try go_wp2
          have n0_ := Aside0.mk (below_drew1 HB.out)
          clear HB
          have HB := n0_
          clear n0_
          have p102 : 0 ≤ (x3_1 : Int) := of_decide_eq_true sA
          have q102 : x3_1 < (l0.length : Int) := of_decide_eq_true sA
          obtain ⟨ad102, e102, hx102_0, hx102_1, hx102_2, hx102_3⟩ := at_T50 HR0.out x3_1 p102 q102
          have hw102_3 := hx102_3
          have hw102_2 := hx102_2
          have hw102_1 := hx102_1
          have hw102_0 := hx102_0
          cases e102
          replace hx102_0 := (HB.out.cell (World.block_lt_of_cell? w _ hx102_0)).trans hx102_0
          replace hx102_1 := (HB.out.cell (World.block_lt_of_cell? w _ hx102_1)).trans hx102_1
          replace hx102_2 := (HB.out.cell (World.block_lt_of_cell? w _ hx102_2)).trans hx102_2
          replace hx102_3 := (HB.out.cell (World.block_lt_of_cell? w _ hx102_3)).trans hx102_3
          replace p102 := eq_true p102
          replace q102 := eq_true q102
          refine start_ (n := 24) (S := fun w' => w'.cell? (ad102.add ((x3_1).toNat * 4)) = some (.int .i64 ((rd_T50 l0 x3_1).f0)) ∧ w'.cell? ⟨(ad102.add ((x3_1).toNat * 4)).block, (ad102.add ((x3_1).toNat * 4)).off + 1, none⟩ = some (.int .i64 ((rd_T50 l0 x3_1).f1)) ∧ w'.cell? ⟨(ad102.add ((x3_1).toNat * 4)).block, (ad102.add ((x3_1).toNat * 4)).off + 2, none⟩ = some (.int .i64 ((rd_T50 l0 x3_1).f2)) ∧ w'.cell? ⟨(ad102.add ((x3_1).toNat * 4)).block, (ad102.add ((x3_1).toNat * 4)).off + 3, none⟩ = some (.int .i64 ((rd_T50 l0 x3_1).f3))) (ds := []) #[false, false, false, false, false, false, false, false, false, false, false, false, false, false, false, false, false, false, false, false, false, false, false, false] (by kernel_rfl) rfl rfl ⟨((HB.out.cell (World.block_lt_of_cell? w _ hw102_0)).trans hw102_0), ((HB.out.cell (World.block_lt_of_cell? w _ hw102_1)).trans hw102_1), ((HB.out.cell (World.block_lt_of_cell? w _ hw102_2)).trans hw102_2), ((HB.out.cell (World.block_lt_of_cell? w _ hw102_3)).trans hw102_3)⟩ (fun hHeld => ?_); refine with_tabW vinculumref08_Is.tab4 vinculumref08_Is.bits4 (fun HT_ HW_ => ?_)
          generalize wc.drew = w18 at HB hx102_0 hx102_1 hx102_2 hx102_3 hHeld ⊢
          refine pT_ HT_.out 0 15 ?_
          refine pT_ HT_.out 1 16 ?_
          refine pT_ HT_.out 2 17 ?_
          refine tW_ HT_.out HW_.out 3 18 hHeld ?_
          refine oT_ 4 19 HT_.out (fun K hK => ?_)
          refine goes_ Try.func57 (by kernel_rfl) rfl #[.agg #[.int .i64 ((rd_T50 l0 x3_1).f0), .int .i64 ((rd_T50 l0 x3_1).f1), .int .i64 ((rd_T50 l0 x3_1).f2), .int .i64 ((rd_T50 l0 x3_1).f3)]] (by rfl) rfl rfl aA ?_
          with_reducible refine (vinculumref08_one.calls ((rd_T50 l0 x3_1).f0) ((rd_T50 l0 x3_1).f1) ((rd_T50 l0 x3_1).f2) ((rd_T50 l0 x3_1).f3) true _ A7.out).mono ?_
          rintro e w19 ⟨rfl, hb⟩
          refine ⟨_, rfl, ?_⟩
          have n0_ := Aside0.mk (below_step bA hb)
          clear HB
          have HB := n0_
          clear n0_
          (try clear hb)
          refine hK.out _ _ ⟨((HB.out.cell (World.block_lt_of_cell? w _ hw102_0)).trans hw102_0), ((HB.out.cell (World.block_lt_of_cell? w _ hw102_1)).trans hw102_1), ((HB.out.cell (World.block_lt_of_cell? w _ hw102_2)).trans hw102_2), ((HB.out.cell (World.block_lt_of_cell? w _ hw102_3)).trans hw102_3)⟩ (fun hHeld => ?_)
          clear hK K
          refine nS_ ?_
          refine pT_ HT_.out 5 20 ?_
          refine pT_ HT_.out 6 21 ?_
          refine pT_ HT_.out 7 22 ?_
          refine pT_ HT_.out 8 23 ?_
          refine pT_ HT_.out 9 24 ?_
          refine pure_ (i := 10) (N := some 25) (v := undef) (a' := ?_) #[true, true, true, true, true, true, true, true, true, true, true, false, false, false, false, false, false, false, false, false, false, false, false, false] rfl rfl (any_of HT_.out (by kernel_rfl)) (fun _ _ _ h => h) (Or.inr ⟨by rfl, rfl⟩) ?_ ?_
          rotate_left
          ·
           simp only [Act.put, List.setIfInBounds_toArray, List.set_cons_zero, List.set_cons_succ, i64_w, i32_w]
           rfl
          refine pure_ (i := 11) (N := some 26) (v := undef) (a' := ?_) #[true, true, true, true, true, true, true, true, true, true, true, true, false, false, false, false, false, false, false, false, false, false, false, false] rfl rfl (any_of HT_.out (by kernel_rfl)) (fun _ _ _ h => h) (Or.inr ⟨by rfl, rfl⟩) ?_ ?_
          rotate_left
          ·
           simp only [Act.put, List.setIfInBounds_toArray, List.set_cons_zero, List.set_cons_succ, i64_w, i32_w]
           rfl
          refine pure_ (i := 12) (N := some 27) (v := undef) (a' := ?_) #[true, true, true, true, true, true, true, true, true, true, true, true, true, false, false, false, false, false, false, false, false, false, false, false] rfl rfl (any_of HT_.out (by kernel_rfl)) (fun _ _ _ h => h) (Or.inr ⟨by rfl, rfl⟩) ?_ ?_
          rotate_left
          ·
           simp only [Act.put, List.setIfInBounds_toArray, List.set_cons_zero, List.set_cons_succ, i64_w, i32_w]
           rfl
          refine pure_ (i := 13) (N := some 28) (v := undef) (a' := ?_) #[true, true, true, true, true, true, true, true, true, true, true, true, true, true, false, false, false, false, false, false, false, false, false, false] rfl rfl (any_of HT_.out (by kernel_rfl)) (fun _ _ _ h => h) (Or.inr ⟨by rfl, rfl⟩) ?_ ?_
          rotate_left
          ·
           simp only [Act.put, List.setIfInBounds_toArray, List.set_cons_zero, List.set_cons_succ, i64_w, i32_w]
           rfl
          refine pure_ (i := 14) (N := some 29) (v := undef) (a' := ?_) #[true, true, true, true, true, true, true, true, true, true, true, true, true, true, true, false, false, false, false, false, false, false, false, false] rfl rfl (any_of HT_.out (by kernel_rfl)) (fun _ _ _ h => h) (Or.inr ⟨by rfl, rfl⟩) ?_ ?_
          rotate_left
          ·
           simp only [Act.put, List.setIfInBounds_toArray, List.set_cons_zero, List.set_cons_succ, i64_w, i32_w]
           rfl
          refine pure_ (i := 15) (N := some 30) (v := undef) (a' := ?_) #[true, true, true, true, true, true, true, true, true, true, true, true, true, true, true, true, false, false, false, false, false, false, false, false] rfl rfl (any_of HT_.out (by kernel_rfl)) (fun _ _ _ h => h) (Or.inr ⟨by rfl, rfl⟩) ?_ ?_
          rotate_left
          ·
           simp only [Act.put, List.setIfInBounds_toArray, List.set_cons_zero, List.set_cons_succ, i64_w, i32_w]
           rfl
          refine pure_ (i := 16) (N := some 31) (v := undef) (a' := ?_) #[true, true, true, true, true, true, true, true, true, true, true, true, true, true, true, true, true, false, false, false, false, false, false, false] rfl rfl (any_of HT_.out (by kernel_rfl)) (fun _ _ _ h => h) (Or.inr ⟨by rfl, rfl⟩) ?_ ?_
          rotate_left
          ·
           simp only [Act.put, List.setIfInBounds_toArray, List.set_cons_zero, List.set_cons_succ, i64_w, i32_w]
           rfl
          refine pure_ (i := 17) (N := some 32) (v := undef) (a' := ?_) #[true, true, true, true, true, true, true, true, true, true, true, true, true, true, true, true, true, true, false, false, false, false, false, false] rfl rfl (any_of HT_.out (by kernel_rfl)) (fun _ _ _ h => h) (Or.inr ⟨by rfl, rfl⟩) ?_ ?_
          rotate_left
          ·
           simp only [Act.put, List.setIfInBounds_toArray, List.set_cons_zero, List.set_cons_succ, i64_w, i32_w]
           rfl
          refine pure_ (i := 18) (N := some 33) (v := undef) (a' := ?_) #[true, true, true, true, true, true, true, true, true, true, true, true, true, true, true, true, true, true, true, false, false, false, false, false] rfl rfl (any_of HT_.out (by kernel_rfl)) (fun _ _ _ h => h) (Or.inr ⟨by rfl, rfl⟩) ?_ ?_
          rotate_left
          ·
           simp only [Act.put, List.setIfInBounds_toArray, List.set_cons_zero, List.set_cons_succ, i64_w, i32_w]
           rfl
          refine pure_ (i := 19) (N := some 34) (v := undef) (a' := ?_) #[true, true, true, true, true, true, true, true, true, true, true, true, true, true, true, true, true, true, true, true, false, false, false, false] rfl rfl (any_of HT_.out (by kernel_rfl)) (fun _ _ _ h => h) (Or.inr ⟨by rfl, rfl⟩) ?_ ?_
          rotate_left
          ·
           simp only [Act.put, List.setIfInBounds_toArray, List.set_cons_zero, List.set_cons_succ, i64_w, i32_w]
           rfl
          refine pure_ (i := 20) (N := some 35) (v := undef) (a' := ?_) #[true, true, true, true, true, true, true, true, true, true, true, true, true, true, true, true, true, true, true, true, true, false, false, false] rfl rfl (any_of HT_.out (by kernel_rfl)) (fun _ _ _ h => h) (Or.inr ⟨by rfl, rfl⟩) ?_ ?_
          rotate_left
          ·
           simp only [Act.put, List.setIfInBounds_toArray, List.set_cons_zero, List.set_cons_succ, i64_w, i32_w]
           rfl
          refine pure_ (i := 21) (N := some 36) (v := undef) (a' := ?_) #[true, true, true, true, true, true, true, true, true, true, true, true, true, true, true, true, true, true, true, true, true, true, false, false] rfl rfl (any_of HT_.out (by kernel_rfl)) (fun _ _ _ h => h) (Or.inr ⟨by rfl, rfl⟩) ?_ ?_
          rotate_left
          ·
           simp only [Act.put, List.setIfInBounds_toArray, List.set_cons_zero, List.set_cons_succ, i64_w, i32_w]
           rfl
          refine pT_ HT_.out 22 37 ?_
          refine pT_ HT_.out 23 38 ?_
          refine done_ (done_of HT_.out (by kernel_rfl)) ?_
          try go_wp2
          go_roundg kj1
          case measure => have := HK1.out; have := HJ1.out; omega
          case rel => exact ⟨(wrap64 (x3_1 + 1)), gA, H', ⟨by have := HK1.out; have := HJ1.out; omega⟩, ⟨bA⟩⟩
        ·
         replace c8 := Bool.eq_false_iff.mpr c8
         subst c8
         rw [if_neg Bool.false_ne_true] at H
         obtain rfl := Option.some.inj H
         try go_wp2
         have n0_ := Aside0.mk (below_drew1 HB.out)
         clear HB
         have HB := n0_
         clear n0_
         have p102 : 0 ≤ (x3_1 : Int) := of_decide_eq_true sA
         have q102 : x3_1 < (l0.length : Int) := of_decide_eq_true sA
         obtain ⟨ad102, e102, hx102_0, hx102_1, hx102_2, hx102_3⟩ := at_T50 HR0.out x3_1 p102 q102
         have hw102_3 := hx102_3
         have hw102_2 := hx102_2
         have hw102_1 := hx102_1
         have hw102_0 := hx102_0
         cases e102
         replace hx102_0 := (HB.out.cell (World.block_lt_of_cell? w _ hx102_0)).trans hx102_0
         replace hx102_1 := (HB.out.cell (World.block_lt_of_cell? w _ hx102_1)).trans hx102_1
         replace hx102_2 := (HB.out.cell (World.block_lt_of_cell? w _ hx102_2)).trans hx102_2
         replace hx102_3 := (HB.out.cell (World.block_lt_of_cell? w _ hx102_3)).trans hx102_3
         replace p102 := eq_true p102
         replace q102 := eq_true q102
         refine start_ (n := 24) (S := fun w' => w'.cell? (ad102.add ((x3_1).toNat * 4)) = some (.int .i64 ((rd_T50 l0 x3_1).f0)) ∧ w'.cell? ⟨(ad102.add ((x3_1).toNat * 4)).block, (ad102.add ((x3_1).toNat * 4)).off + 1, none⟩ = some (.int .i64 ((rd_T50 l0 x3_1).f1)) ∧ w'.cell? ⟨(ad102.add ((x3_1).toNat * 4)).block, (ad102.add ((x3_1).toNat * 4)).off + 2, none⟩ = some (.int .i64 ((rd_T50 l0 x3_1).f2)) ∧ w'.cell? ⟨(ad102.add ((x3_1).toNat * 4)).block, (ad102.add ((x3_1).toNat * 4)).off + 3, none⟩ = some (.int .i64 ((rd_T50 l0 x3_1).f3))) (ds := []) #[false, false, false, false, false, false, false, false, false, false, false, false, false, false, false, false, false, false, false, false, false, false, false, false] (by kernel_rfl) rfl rfl ⟨((HB.out.cell (World.block_lt_of_cell? w _ hw102_0)).trans hw102_0), ((HB.out.cell (World.block_lt_of_cell? w _ hw102_1)).trans hw102_1), ((HB.out.cell (World.block_lt_of_cell? w _ hw102_2)).trans hw102_2), ((HB.out.cell (World.block_lt_of_cell? w _ hw102_3)).trans hw102_3)⟩ (fun hHeld => ?_); refine with_tabW vinculumref08_Is.tab4 vinculumref08_Is.bits4 (fun HT_ HW_ => ?_)
         generalize wc.drew = w20 at HB hx102_0 hx102_1 hx102_2 hx102_3 hHeld ⊢
         refine pT_ HT_.out 0 15 ?_
         refine pT_ HT_.out 1 16 ?_
         refine pT_ HT_.out 2 17 ?_
         refine tW_ HT_.out HW_.out 3 18 hHeld ?_
         refine oT_ 4 19 HT_.out (fun K hK => ?_)
         refine goes_ Try.func57 (by kernel_rfl) rfl #[.agg #[.int .i64 ((rd_T50 l0 x3_1).f0), .int .i64 ((rd_T50 l0 x3_1).f1), .int .i64 ((rd_T50 l0 x3_1).f2), .int .i64 ((rd_T50 l0 x3_1).f3)]] (by rfl) rfl rfl aA ?_
         with_reducible refine (vinculumref08_one.calls ((rd_T50 l0 x3_1).f0) ((rd_T50 l0 x3_1).f1) ((rd_T50 l0 x3_1).f2) ((rd_T50 l0 x3_1).f3) false _ A7.out).mono ?_
         rintro e w21 ⟨rfl, hb⟩
         refine ⟨_, rfl, ?_⟩
         have n0_ := Aside0.mk (below_step bA hb)
         clear HB
         have HB := n0_
         clear n0_
         (try clear hb)
         refine hK.out _ _ ⟨((HB.out.cell (World.block_lt_of_cell? w _ hw102_0)).trans hw102_0), ((HB.out.cell (World.block_lt_of_cell? w _ hw102_1)).trans hw102_1), ((HB.out.cell (World.block_lt_of_cell? w _ hw102_2)).trans hw102_2), ((HB.out.cell (World.block_lt_of_cell? w _ hw102_3)).trans hw102_3)⟩ (fun hHeld => ?_)
         clear hK K
         refine nS_ ?_
         refine pT_ HT_.out 5 20 ?_
         refine pT_ HT_.out 6 21 ?_
         refine pure_ (i := 7) (N := some 22) (v := undef) (a' := ?_) #[true, true, true, true, true, true, true, true, false, false, false, false, false, false, false, false, false, false, false, false, false, false, false, false] rfl rfl (any_of HT_.out (by kernel_rfl)) (fun _ _ _ h => h) (Or.inr ⟨by rfl, rfl⟩) ?_ ?_
         rotate_left
         ·
          simp only [Act.put, List.setIfInBounds_toArray, List.set_cons_zero, List.set_cons_succ, i64_w, i32_w]
          rfl
         refine pure_ (i := 8) (N := some 23) (v := undef) (a' := ?_) #[true, true, true, true, true, true, true, true, true, false, false, false, false, false, false, false, false, false, false, false, false, false, false, false] rfl rfl (any_of HT_.out (by kernel_rfl)) (fun _ _ _ h => h) (Or.inr ⟨by rfl, rfl⟩) ?_ ?_
         rotate_left
         ·
          simp only [Act.put, List.setIfInBounds_toArray, List.set_cons_zero, List.set_cons_succ, i64_w, i32_w]
          rfl
         refine pure_ (i := 9) (N := some 24) (v := undef) (a' := ?_) #[true, true, true, true, true, true, true, true, true, true, false, false, false, false, false, false, false, false, false, false, false, false, false, false] rfl rfl (any_of HT_.out (by kernel_rfl)) (fun _ _ _ h => h) (Or.inr ⟨by rfl, rfl⟩) ?_ ?_
         rotate_left
         ·
          simp only [Act.put, List.setIfInBounds_toArray, List.set_cons_zero, List.set_cons_succ, i64_w, i32_w]
          rfl
         refine pure_ (i := 10) (N := some 25) (v := undef) (a' := ?_) #[true, true, true, true, true, true, true, true, true, true, true, false, false, false, false, false, false, false, false, false, false, false, false, false] rfl rfl (any_of HT_.out (by kernel_rfl)) (fun _ _ _ h => h) (Or.inr ⟨by rfl, rfl⟩) ?_ ?_
         rotate_left
         ·
          simp only [Act.put, List.setIfInBounds_toArray, List.set_cons_zero, List.set_cons_succ, i64_w, i32_w]
          rfl
         refine pure_ (i := 11) (N := some 26) (v := undef) (a' := ?_) #[true, true, true, true, true, true, true, true, true, true, true, true, false, false, false, false, false, false, false, false, false, false, false, false] rfl rfl (any_of HT_.out (by kernel_rfl)) (fun _ _ _ h => h) (Or.inr ⟨by rfl, rfl⟩) ?_ ?_
         rotate_left
         ·
          simp only [Act.put, List.setIfInBounds_toArray, List.set_cons_zero, List.set_cons_succ, i64_w, i32_w]
          rfl
         refine pure_ (i := 12) (N := some 27) (v := undef) (a' := ?_) #[true, true, true, true, true, true, true, true, true, true, true, true, true, false, false, false, false, false, false, false, false, false, false, false] rfl rfl (any_of HT_.out (by kernel_rfl)) (fun _ _ _ h => h) (Or.inr ⟨by rfl, rfl⟩) ?_ ?_
         rotate_left
         ·
          simp only [Act.put, List.setIfInBounds_toArray, List.set_cons_zero, List.set_cons_succ, i64_w, i32_w]
          rfl
         refine pure_ (i := 13) (N := some 28) (v := undef) (a' := ?_) #[true, true, true, true, true, true, true, true, true, true, true, true, true, true, false, false, false, false, false, false, false, false, false, false] rfl rfl (any_of HT_.out (by kernel_rfl)) (fun _ _ _ h => h) (Or.inr ⟨by rfl, rfl⟩) ?_ ?_
         rotate_left
         ·
          simp only [Act.put, List.setIfInBounds_toArray, List.set_cons_zero, List.set_cons_succ, i64_w, i32_w]
          rfl
         refine pure_ (i := 14) (N := some 29) (v := undef) (a' := ?_) #[true, true, true, true, true, true, true, true, true, true, true, true, true, true, true, false, false, false, false, false, false, false, false, false] rfl rfl (any_of HT_.out (by kernel_rfl)) (fun _ _ _ h => h) (Or.inr ⟨by rfl, rfl⟩) ?_ ?_
         rotate_left
         ·
          simp only [Act.put, List.setIfInBounds_toArray, List.set_cons_zero, List.set_cons_succ, i64_w, i32_w]
          rfl
         refine pure_ (i := 15) (N := some 30) (v := undef) (a' := ?_) #[true, true, true, true, true, true, true, true, true, true, true, true, true, true, true, true, false, false, false, false, false, false, false, false] rfl rfl (any_of HT_.out (by kernel_rfl)) (fun _ _ _ h => h) (Or.inr ⟨by rfl, rfl⟩) ?_ ?_
         rotate_left
         ·
          simp only [Act.put, List.setIfInBounds_toArray, List.set_cons_zero, List.set_cons_succ, i64_w, i32_w]
          rfl
         refine pure_ (i := 16) (N := some 31) (v := undef) (a' := ?_) #[true, true, true, true, true, true, true, true, true, true, true, true, true, true, true, true, true, false, false, false, false, false, false, false] rfl rfl (any_of HT_.out (by kernel_rfl)) (fun _ _ _ h => h) (Or.inr ⟨by rfl, rfl⟩) ?_ ?_
         rotate_left
         ·
          simp only [Act.put, List.setIfInBounds_toArray, List.set_cons_zero, List.set_cons_succ, i64_w, i32_w]
          rfl
         refine pure_ (i := 17) (N := some 32) (v := undef) (a' := ?_) #[true, true, true, true, true, true, true, true, true, true, true, true, true, true, true, true, true, true, false, false, false, false, false, false] rfl rfl (any_of HT_.out (by kernel_rfl)) (fun _ _ _ h => h) (Or.inr ⟨by rfl, rfl⟩) ?_ ?_
         rotate_left
         ·
          simp only [Act.put, List.setIfInBounds_toArray, List.set_cons_zero, List.set_cons_succ, i64_w, i32_w]
          rfl
         refine pure_ (i := 18) (N := some 33) (v := undef) (a' := ?_) #[true, true, true, true, true, true, true, true, true, true, true, true, true, true, true, true, true, true, true, false, false, false, false, false] rfl rfl (any_of HT_.out (by kernel_rfl)) (fun _ _ _ h => h) (Or.inr ⟨by rfl, rfl⟩) ?_ ?_
         rotate_left
         ·
          simp only [Act.put, List.setIfInBounds_toArray, List.set_cons_zero, List.set_cons_succ, i64_w, i32_w]
          rfl
         refine pure_ (i := 19) (N := some 34) (v := undef) (a' := ?_) #[true, true, true, true, true, true, true, true, true, true, true, true, true, true, true, true, true, true, true, true, false, false, false, false] rfl rfl (any_of HT_.out (by kernel_rfl)) (fun _ _ _ h => h) (Or.inr ⟨by rfl, rfl⟩) ?_ ?_
         rotate_left
         ·
          simp only [Act.put, List.setIfInBounds_toArray, List.set_cons_zero, List.set_cons_succ, i64_w, i32_w]
          rfl
         refine pure_ (i := 20) (N := some 35) (v := undef) (a' := ?_) #[true, true, true, true, true, true, true, true, true, true, true, true, true, true, true, true, true, true, true, true, true, false, false, false] rfl rfl (any_of HT_.out (by kernel_rfl)) (fun _ _ _ h => h) (Or.inr ⟨by rfl, rfl⟩) ?_ ?_
         rotate_left
         ·
          simp only [Act.put, List.setIfInBounds_toArray, List.set_cons_zero, List.set_cons_succ, i64_w, i32_w]
          rfl
         refine pure_ (i := 21) (N := some 36) (v := undef) (a' := ?_) #[true, true, true, true, true, true, true, true, true, true, true, true, true, true, true, true, true, true, true, true, true, true, false, false] rfl rfl (any_of HT_.out (by kernel_rfl)) (fun _ _ _ h => h) (Or.inr ⟨by rfl, rfl⟩) ?_ ?_
         rotate_left
         ·
          simp only [Act.put, List.setIfInBounds_toArray, List.set_cons_zero, List.set_cons_succ, i64_w, i32_w]
          rfl
         refine pure_ (i := 22) (N := some 37) (v := undef) (a' := ?_) #[true, true, true, true, true, true, true, true, true, true, true, true, true, true, true, true, true, true, true, true, true, true, true, false] rfl rfl (any_of HT_.out (by kernel_rfl)) (fun _ _ _ h => h) (Or.inr ⟨by rfl, rfl⟩) ?_ ?_
         rotate_left
         ·
          simp only [Act.put, List.setIfInBounds_toArray, List.set_cons_zero, List.set_cons_succ, i64_w, i32_w]
          rfl
         refine pT_ HT_.out 23 38 ?_
         refine done_ (done_of HT_.out (by kernel_rfl)) ?_
         try go_wp2
         go_ret
         exact ⟨eA, bA⟩
       ·
        rw [if_neg c6] at H
        exact absurd H (by simp)
      ·
       rw [if_neg c5] at H
       exact absurd H (by simp)
     ·
      replace c4 := Bool.eq_false_iff.mpr c4
      subst c4
      rw [if_neg Bool.false_ne_true] at H
      obtain rfl := Option.some.inj H
      go_wp2
      go_ret
      exact ⟨eA, bA⟩
mutual
def vinculumref08_ends.l0 : Nat → List (S50) → Int → Int → Int → Option (Int × Int × Bool)
 | 0, _, _, _, _ => none
 | k + 1, x0, x5, x6, x7 => if x7 < (x0.length : Int) then (if 0 ≤ x7 then (if ((rd_T50 x0 x7).f2) = 0 then (vinculumref08_ends.j1 k x0 x5 x6 x7 (wrap64 (((rd_T50 x0 x7).f0) + 1))) else (vinculumref08_ends.j1 k x0 x5 x6 x7 ((rd_T50 x0 x7).f0))) else (none)) else (some (x5, x6, decide (x5 ≥ 0)))
def vinculumref08_ends.j1 : Nat → List (S50) → Int → Int → Int → Int → Option (Int × Int × Bool)
 | 0, _, _, _, _, _ => none
 | k + 1, x0, x5, x6, x7, x8 => if 0 ≤ x7 then (if x7 < (x0.length : Int) then (if ((rd_T50 x0 x7).f2) = 0 then (if ((rd_T50 x0 x7).f3) = 0 then (vinculumref08_ends.j2 k x0 x5 x6 x7 x8 true) else (vinculumref08_ends.j2 k x0 x5 x6 x7 x8 (decide (x8 > ((rd_T50 x0 x7).f1))))) else (vinculumref08_ends.j2 k x0 x5 x6 x7 x8 (decide (x8 > ((rd_T50 x0 x7).f1))))) else (none)) else (none)
def vinculumref08_ends.j2 : Nat → List (S50) → Int → Int → Int → Int → Bool → Option (Int × Int × Bool)
 | 0, _, _, _, _, _, _ => none
 | k + 1, x0, x5, x6, x7, x8, x50 => if x50 = true then (vinculumref08_ends.l0 k x0 x5 x6 (wrap64 (x7 + 1))) else (if x5 < 0 then (if 0 ≤ x7 then (if x7 < (x0.length : Int) then (vinculumref08_ends.l0 k x0 x8 ((rd_T50 x0 x7).f1) (wrap64 (x7 + 1))) else (none)) else (none)) else (if 0 ≤ x7 then (if x7 < (x0.length : Int) then (vinculumref08_ends.l0 k x0 x5 ((rd_T50 x0 x7).f1) (wrap64 (x7 + 1))) else (none)) else (none)))
end
def vinculumref08_ends.f (k : Nat) (l0 : List (S50)) : Option (Int × Int × Bool) := vinculumref08_ends.l0 k l0 (-1) (-1) 0
set_option maxHeartbeats 8000000 in
set_option maxRecDepth 100000 in
theorem vinculumref08_ends.calls (k : Nat) (A0 : Option Addr) (c0 : Nat) (l0 : List (S50)) (r1 : Int) (r2 : Int) (r3 : Bool) (w : World) (hr0 : Kd.C k50 w A0 l0.length l0) (hc0 : l0.length ≤ c0) (h : vinculumref08_ends.f k l0 = some (r1, r2, r3)) :
  Calls Try.prog 34 #[.slice A0 l0.length c0] w fun e w' => e = .returned (.tuple #[.int .i64 r1, .int .i64 r2, .bool r3]) ∧ Drawn0 w w' := by
 have HR0 := Aside0.mk hr0
 have HC0 := Aside0.mk hc0
 clear hr0 hc0
 have H : (vinculumref08_ends.l0 k l0 (-1) (-1) 0) = some (r1, r2, r3) := h
 clear h
 have H' := Aside0.mk H
 clear H
 go_enter Try.func34, Try.ntmps34
 go_wp2
 go_loopg [5, 6, 7] k (fun kq v5 v6 v7 w' => ∃ (x5_1 : Int) (x6_1 : Int) (x7_1 : Int), v5 = .int .i64 x5_1 ∧ v6 = .int .i64 x6_1 ∧ v7 = .int .i64 x7_1 ∧ Aside0 (vinculumref08_ends.l0 kq l0 x5_1 x6_1 x7_1 = some (r1, r2, r3)) ∧ Aside0 (kq ≤ k) ∧ Drawn0 w w')
 case atStart => exact ⟨((-1)), ((-1)), (0), gA, gA, gA, H', ⟨Nat.le_refl _⟩, by repeat (first | exact Drawn0.refl _ | apply Drawn0.step)⟩
 case round =>
  clear H'
  obtain ⟨x5_1, x6_1, x7_1, rfl, rfl, rfl, HA, HK1, ⟨m1, rfl⟩⟩ := hrel
  cases gk with
  | zero => exact absurd HA.out (by simp [vinculumref08_ends.l0])
  | succ k1 =>
   have H := HA.out
   clear HA
   simp only [vinculumref08_ends.l0] at H
   by_cases c2 : x7_1 < (l0.length : Int)
   ·
    rw [if_pos c2] at H
    have c2b0 : decide (x7_1 < (l0.length : Int)) = true := decide_eq_true c2
    clear c2
    by_cases c3 : 0 ≤ x7_1
    ·
     rw [if_pos c3] at H
     have c3b0 : decide (0 ≤ x7_1) = true := decide_eq_true c3
     clear c3
     have HC4 := Aside0.mk H
     clear H
     have p106 : 0 ≤ (x7_1 : Int) := of_decide_eq_true sA
     have q106 : x7_1 < (l0.length : Int) := of_decide_eq_true sA
     obtain ⟨ad106, e106, hx106_0, hx106_1, hx106_2, hx106_3⟩ := at_T50 HR0.out x7_1 p106 q106
     cases e106
     replace p106 := eq_true p106
     replace q106 := eq_true q106
     have p107 : 0 ≤ (x7_1 : Int) := of_decide_eq_true sA
     have q107 : x7_1 < (l0.length : Int) := of_decide_eq_true sA
     obtain ⟨ad107, e107, hx107_0, hx107_1, hx107_2, hx107_3⟩ := at_T50 HR0.out x7_1 p107 q107
     obtain rfl : ad106 = ad107 := (by injection e107)
     replace p107 := eq_true p107
     replace q107 := eq_true q107
     go_upto_if 25 with (fail)
     go_cut [8] (fun v8 wc => ∃ (kq : Nat) (x8_3 : Int), v8 = .int .i64 x8_3 ∧ Aside0 (vinculumref08_ends.j1 kq l0 x5_1 x6_1 x7_1 x8_3 = some (r1, r2, r3)) ∧ Aside0 (kq ≤ k1) ∧ Drawn0 w wc)
     case first =>
      have H := HC4.out
      clear HC4
      by_cases c5 : ((rd_T50 l0 x7_1).f2) = 0
      ·
       rw [if_pos c5] at H
       have c5b0 : (((rd_T50 l0 x7_1).f2) == 0) = true := beq_iff_eq.mpr c5
       have c5b1 : (((rd_T50 l0 x7_1).f2) != 0) = false := bne_eq_false_iff_eq.mpr c5
       clear c5
       (first | rw [c5b0] | (simp only [i64_w, i32_w]; rw [c5b0]) | skip)
       have H' := Aside0.mk H
       clear H
       go_wp2
       go_meet
       case rel => exact ⟨_, (wrap64 (((rd_T50 l0 x7_1).f0) + 1)), gA, H', ⟨by have := HK1.out; first | omega | exact Nat.le_refl _⟩, by repeat (first | exact Drawn0.refl _ | apply Drawn0.step)⟩
      ·
       rw [if_neg c5] at H
       have c5b0 : (((rd_T50 l0 x7_1).f2) == 0) = false := beq_eq_false_iff_ne.mpr c5
       have c5b1 : (((rd_T50 l0 x7_1).f2) != 0) = true := bne_iff_ne.mpr c5
       (first | rw [c5b0] | (simp only [i64_w, i32_w]; rw [c5b0]) | skip)
       have H' := Aside0.mk H
       clear H
       go_wp2
       go_meet
       case rel => exact ⟨_, ((rd_T50 l0 x7_1).f0), gA, H', ⟨by have := HK1.out; first | omega | exact Nat.le_refl _⟩, by repeat (first | exact Drawn0.refl _ | apply Drawn0.step)⟩
     case rest =>
      clear HC4
      try clear p1
      try clear q1
      try clear hx1
      try clear c2
      try clear c2b0
      try clear p2
      try clear c3
      try clear c3b0
      try clear c5
      try clear c5b0
      try clear c5b1
      try clear hx106_0
      try clear hx106_1
      try clear hx106_2
      try clear hx106_3
      try clear hx107_0
      try clear hx107_1
      try clear hx107_2
      try clear hx107_3
      try clear p106
      try clear p107
      try clear q106
      try clear q107
      obtain ⟨kq, x8_3, rfl, HA, HJ3, ⟨mc3, rfl⟩⟩ := hcut
      cases kq with
      | zero => exact absurd HA.out (by simp [vinculumref08_ends.j1])
      | succ kj3 =>
       have H := HA.out
       clear HA
       simp only [vinculumref08_ends.j1] at H
       have HC6 := Aside0.mk H
       clear H
       go_upto_region 9 with (fail)
       go_cut [50] (fun v50 wc => ∃ (kq : Nat) (x50_5 : Bool), v50 = .bool x50_5 ∧ Aside0 (vinculumref08_ends.j2 kq l0 x5_1 x6_1 x7_1 x8_3 x50_5 = some (r1, r2, r3)) ∧ Aside0 (kq ≤ kj3) ∧ Drawn0 w wc)
       case first =>
        have H := HC6.out
        clear HC6
        by_cases c7 : 0 ≤ x7_1
        ·
         rw [if_pos c7] at H
         have c7b0 : decide (0 ≤ x7_1) = true := decide_eq_true c7
         clear c7
         (first | rw [c7b0] | (simp only [i64_w, i32_w]; rw [c7b0]) | skip)
         by_cases c8 : x7_1 < (l0.length : Int)
         ·
          rw [if_pos c8] at H
          have c8b0 : decide (x7_1 < (l0.length : Int)) = true := decide_eq_true c8
          clear c8
          by_cases c9 : ((rd_T50 l0 x7_1).f2) = 0
          ·
           rw [if_pos c9] at H
           have c9b0 : (((rd_T50 l0 x7_1).f2) == 0) = true := beq_iff_eq.mpr c9
           have c9b1 : (((rd_T50 l0 x7_1).f2) != 0) = false := bne_eq_false_iff_eq.mpr c9
           clear c9
           by_cases c10 : ((rd_T50 l0 x7_1).f3) = 0
           ·
            rw [if_pos c10] at H
            have c10b0 : (((rd_T50 l0 x7_1).f3) == 0) = true := beq_iff_eq.mpr c10
            have c10b1 : (((rd_T50 l0 x7_1).f3) != 0) = false := bne_eq_false_iff_eq.mpr c10
            clear c10
            have H' := Aside0.mk H
            clear H
            have p108 : 0 ≤ (x7_1 : Int) := of_decide_eq_true sA
            have q108 : x7_1 < (l0.length : Int) := of_decide_eq_true sA
            obtain ⟨ad108, e108, hx108_0, hx108_1, hx108_2, hx108_3⟩ := at_T50 HR0.out x7_1 p108 q108
            obtain rfl : ad106 = ad108 := (by injection e108)
            replace p108 := eq_true p108
            replace q108 := eq_true q108
            have p109 : 0 ≤ (x7_1 : Int) := of_decide_eq_true sA
            have q109 : x7_1 < (l0.length : Int) := of_decide_eq_true sA
            obtain ⟨ad109, e109, hx109_0, hx109_1, hx109_2, hx109_3⟩ := at_T50 HR0.out x7_1 p109 q109
            obtain rfl : ad106 = ad109 := (by injection e109)
            replace p109 := eq_true p109
            replace q109 := eq_true q109
            go_wp2
            go_meet
            case rel => exact ⟨_, (true), gA, H', ⟨by have := HK1.out; have := HJ3.out; first | omega | exact Nat.le_refl _⟩, by repeat (first | exact Drawn0.refl _ | apply Drawn0.step)⟩
           ·
            rw [if_neg c10] at H
            have c10b0 : (((rd_T50 l0 x7_1).f3) == 0) = false := beq_eq_false_iff_ne.mpr c10
            have c10b1 : (((rd_T50 l0 x7_1).f3) != 0) = true := bne_iff_ne.mpr c10
            have H' := Aside0.mk H
            clear H
            have p108 : 0 ≤ (x7_1 : Int) := of_decide_eq_true sA
            have q108 : x7_1 < (l0.length : Int) := of_decide_eq_true sA
            obtain ⟨ad108, e108, hx108_0, hx108_1, hx108_2, hx108_3⟩ := at_T50 HR0.out x7_1 p108 q108
            obtain rfl : ad106 = ad108 := (by injection e108)
            replace p108 := eq_true p108
            replace q108 := eq_true q108
            have p109 : 0 ≤ (x7_1 : Int) := of_decide_eq_true sA
            have q109 : x7_1 < (l0.length : Int) := of_decide_eq_true sA
            obtain ⟨ad109, e109, hx109_0, hx109_1, hx109_2, hx109_3⟩ := at_T50 HR0.out x7_1 p109 q109
            obtain rfl : ad106 = ad109 := (by injection e109)
            replace p109 := eq_true p109
            replace q109 := eq_true q109
            have p110 : 0 ≤ (x7_1 : Int) := of_decide_eq_true sA
            have q110 : x7_1 < (l0.length : Int) := of_decide_eq_true sA
            obtain ⟨ad110, e110, hx110_0, hx110_1, hx110_2, hx110_3⟩ := at_T50 HR0.out x7_1 p110 q110
            obtain rfl : ad106 = ad110 := (by injection e110)
            replace p110 := eq_true p110
            replace q110 := eq_true q110
            go_wp2
            go_meet
            case rel => exact ⟨_, (decide (x8_3 > ((rd_T50 l0 x7_1).f1))), gA, H', ⟨by have := HK1.out; have := HJ3.out; first | omega | exact Nat.le_refl _⟩, by repeat (first | exact Drawn0.refl _ | apply Drawn0.step)⟩
          ·
           rw [if_neg c9] at H
           have c9b0 : (((rd_T50 l0 x7_1).f2) == 0) = false := beq_eq_false_iff_ne.mpr c9
           have c9b1 : (((rd_T50 l0 x7_1).f2) != 0) = true := bne_iff_ne.mpr c9
           have H' := Aside0.mk H
           clear H
           have p108 : 0 ≤ (x7_1 : Int) := of_decide_eq_true sA
           have q108 : x7_1 < (l0.length : Int) := of_decide_eq_true sA
           obtain ⟨ad108, e108, hx108_0, hx108_1, hx108_2, hx108_3⟩ := at_T50 HR0.out x7_1 p108 q108
           obtain rfl : ad106 = ad108 := (by injection e108)
           replace p108 := eq_true p108
           replace q108 := eq_true q108
           have p111 : 0 ≤ (x7_1 : Int) := of_decide_eq_true sA
           have q111 : x7_1 < (l0.length : Int) := of_decide_eq_true sA
           obtain ⟨ad111, e111, hx111_0, hx111_1, hx111_2, hx111_3⟩ := at_T50 HR0.out x7_1 p111 q111
           obtain rfl : ad106 = ad111 := (by injection e111)
           replace p111 := eq_true p111
           replace q111 := eq_true q111
           go_wp2
           go_meet
           case rel => exact ⟨_, (decide (x8_3 > ((rd_T50 l0 x7_1).f1))), gA, H', ⟨by have := HK1.out; have := HJ3.out; first | omega | exact Nat.le_refl _⟩, by repeat (first | exact Drawn0.refl _ | apply Drawn0.step)⟩
         ·
          rw [if_neg c8] at H
          exact absurd H (by simp)
        ·
         rw [if_neg c7] at H
         exact absurd H (by simp)
       case rest =>
        clear HC6
        try clear c1
        try clear p1
        try clear q1
        try clear hx1
        try clear c2
        try clear c2b0
        try clear p2
        try clear c3
        try clear c3b0
        try clear c5
        try clear c5b0
        try clear c5b1
        try clear p6
        try clear c7
        try clear c7b0
        try clear c8
        try clear c8b0
        try clear c9
        try clear c9b0
        try clear c9b1
        try clear c10
        try clear c10b0
        try clear c10b1
        try clear p10
        try clear q10
        try clear hx10
        try clear hx106_0
        try clear hx106_1
        try clear hx106_2
        try clear hx106_3
        try clear hx107_0
        try clear hx107_1
        try clear hx107_2
        try clear hx107_3
        try clear hx108_0
        try clear hx108_1
        try clear hx108_2
        try clear hx108_3
        try clear hx109_0
        try clear hx109_1
        try clear hx109_2
        try clear hx109_3
        try clear hx110_0
        try clear hx110_1
        try clear hx110_2
        try clear hx110_3
        try clear hx111_0
        try clear hx111_1
        try clear hx111_2
        try clear hx111_3
        try clear p1
        try clear p106
        try clear p107
        try clear p108
        try clear p109
        try clear p110
        try clear p111
        try clear p2
        try clear q1
        try clear q106
        try clear q107
        try clear q108
        try clear q109
        try clear q110
        try clear q111
        obtain ⟨kq, x50_5, rfl, HA, HJ5, ⟨mc5, rfl⟩⟩ := hcut
        cases kq with
        | zero => exact absurd HA.out (by simp [vinculumref08_ends.j2])
        | succ kj5 =>
         have H := HA.out
         clear HA
         simp only [vinculumref08_ends.j2] at H
         by_cases c11 : x50_5 = true
         ·
          subst c11
          rw [if_pos rfl] at H
          have H' := Aside0.mk H
          clear H
          go_wp2
          go_roundg kj5
          case measure => have := HK1.out; have := HJ3.out; have := HJ5.out; omega
          case rel => exact ⟨(x5_1), (x6_1), (wrap64 (x7_1 + 1)), gA, gA, gA, H', ⟨by have := HK1.out; have := HJ3.out; have := HJ5.out; omega⟩, by repeat (first | exact Drawn0.refl _ | apply Drawn0.step)⟩
         ·
          replace c11 := Bool.eq_false_iff.mpr c11
          subst c11
          rw [if_neg Bool.false_ne_true] at H
          by_cases c12 : x5_1 < 0
          ·
           rw [if_pos c12] at H
           have c12b0 : decide (x5_1 < 0) = true := decide_eq_true c12
           clear c12
           by_cases c13 : 0 ≤ x7_1
           ·
            rw [if_pos c13] at H
            have c13b0 : decide (0 ≤ x7_1) = true := decide_eq_true c13
            clear c13
            by_cases c14 : x7_1 < (l0.length : Int)
            ·
             rw [if_pos c14] at H
             have c14b0 : decide (x7_1 < (l0.length : Int)) = true := decide_eq_true c14
             clear c14
             have H' := Aside0.mk H
             clear H
             have p112 : 0 ≤ (x7_1 : Int) := of_decide_eq_true sA
             have q112 : x7_1 < (l0.length : Int) := of_decide_eq_true sA
             obtain ⟨ad112, e112, hx112_0, hx112_1, hx112_2, hx112_3⟩ := at_T50 HR0.out x7_1 p112 q112
             obtain rfl : ad106 = ad112 := (by injection e112)
             replace p112 := eq_true p112
             replace q112 := eq_true q112
             go_wp2
             go_roundg kj5
             case measure => have := HK1.out; have := HJ3.out; have := HJ5.out; omega
             case rel => exact ⟨(x8_3), ((rd_T50 l0 x7_1).f1), (wrap64 (x7_1 + 1)), gA, gA, gA, H', ⟨by have := HK1.out; have := HJ3.out; have := HJ5.out; omega⟩, by repeat (first | exact Drawn0.refl _ | apply Drawn0.step)⟩
            ·
             rw [if_neg c14] at H
             exact absurd H (by simp)
           ·
            rw [if_neg c13] at H
            exact absurd H (by simp)
          ·
           rw [if_neg c12] at H
           have c12b0 : decide (x5_1 < 0) = false := decide_eq_false c12
           clear c12
           by_cases c15 : 0 ≤ x7_1
           ·
            rw [if_pos c15] at H
            have c15b0 : decide (0 ≤ x7_1) = true := decide_eq_true c15
            clear c15
            by_cases c16 : x7_1 < (l0.length : Int)
            ·
             rw [if_pos c16] at H
             have c16b0 : decide (x7_1 < (l0.length : Int)) = true := decide_eq_true c16
             clear c16
             have H' := Aside0.mk H
             clear H
             have p113 : 0 ≤ (x7_1 : Int) := of_decide_eq_true sA
             have q113 : x7_1 < (l0.length : Int) := of_decide_eq_true sA
             obtain ⟨ad113, e113, hx113_0, hx113_1, hx113_2, hx113_3⟩ := at_T50 HR0.out x7_1 p113 q113
             obtain rfl : ad106 = ad113 := (by injection e113)
             replace p113 := eq_true p113
             replace q113 := eq_true q113
             go_wp2
             go_roundg kj5
             case measure => have := HK1.out; have := HJ3.out; have := HJ5.out; omega
             case rel => exact ⟨(x5_1), ((rd_T50 l0 x7_1).f1), (wrap64 (x7_1 + 1)), gA, gA, gA, H', ⟨by have := HK1.out; have := HJ3.out; have := HJ5.out; omega⟩, by repeat (first | exact Drawn0.refl _ | apply Drawn0.step)⟩
            ·
             rw [if_neg c16] at H
             exact absurd H (by simp)
           ·
            rw [if_neg c15] at H
            exact absurd H (by simp)
    ·
     rw [if_neg c3] at H
     exact absurd H (by simp)
   ·
    rw [if_neg c2] at H
    have c2b0 : decide (x7_1 < (l0.length : Int)) = false := decide_eq_false c2
    clear c2
    simp only [Option.some.injEq, Prod.mk.injEq] at H
    obtain ⟨rfl, rfl, rfl⟩ := H
    go_wp2
    go_ret3
    exact ⟨by first | rfl | (simp; done) | (simp [*]; done), by repeat (first | exact Drawn0.refl _ | apply Drawn0.step)⟩
def vinculumref08_Short.f (k : Nat) (l0 : List (S50)) : Option (Bool) := (vinculumref08_Is.f k l0).bind fun t114 => (if t114 = true then ((vinculumref08_ends.f k l0).bind fun bt115 => (if bt115.2.2 = true then (if (wrap64 (bt115.2.1 - bt115.1)) < 2000 then (some true) else (if bt115.2.1 > 65535 then (some true) else (some (decide ((wrap64 (bt115.2.1 - bt115.1)) > 32762))))) else (some true))) else (some true))
set_option maxHeartbeats 8000000 in
set_option maxRecDepth 100000 in
theorem vinculumref08_Short.calls (k : Nat) (A0 : Option Addr) (c0 : Nat) (l0 : List (S50)) (r : Bool) (w : World) (hr0 : Kd.C k50 w A0 l0.length l0) (hc0 : l0.length ≤ c0) (h : vinculumref08_Short.f k l0 = some r) :
  Calls Try.prog 17 #[.slice A0 l0.length c0] w fun e w' => e = .returned (.bool r) ∧ Below w.heap.size w w' := by
 have HR0 := Aside0.mk hr0
 have HC0 := Aside0.mk hc0
 clear hr0 hc0
 have HB := Aside0.mk (Below.refl w.heap.size w)
 have H : ((vinculumref08_Is.f k l0).bind fun t114 => (if t114 = true then ((vinculumref08_ends.f k l0).bind fun bt115 => (if bt115.2.2 = true then (if (wrap64 (bt115.2.1 - bt115.1)) < 2000 then (some true) else (if bt115.2.1 > 65535 then (some true) else (some (decide ((wrap64 (bt115.2.1 - bt115.1)) > 32762))))) else (some true))) else (some true))) = some r := h
 clear h
 replace H := Option.bind_eq_some_iff.mp H
 obtain ⟨t114, A20, H⟩ := H
 try dsimp only at H
 have A2 := Aside0.mk A20
 clear A20
 by_cases c3 : t114 = true
 ·
  subst c3
  rw [if_pos rfl] at H
  replace H := Option.bind_eq_some_iff.mp H
  obtain ⟨⟨t115, t116, t117⟩, A40, H⟩ := H
  try dsimp only at H
  have A4 := Aside0.mk A40
  clear A40
  by_cases c5 : t117 = true
  ·
   subst c5
   rw [if_pos rfl] at H
   by_cases c6 : (wrap64 (t116 - t115)) < 2000
   ·
    rw [if_pos c6] at H
    have c6b0 : decide ((wrap64 (t116 - t115)) < 2000) = true := decide_eq_true c6
    clear c6
    obtain rfl := Option.some.inj H
    go_enter Try.func17, Try.ntmps17
    go_wp2_with (first | ((with_reducible refine gate_callee (f := 33) rfl ?_); refine gL_ 7 Try.func33 #[.slice A0 l0.length c0] ?_; (with_reducible refine (vinculumref08_Is.calls k _ _ l0 true _ ?side1 ?side2 A2.out).mono ?_); (case side1 => exact cA HR0.out); (case side2 => exact HC0.out); rintro e w7 ⟨rfl, hb⟩; refine ⟨_, rfl, ?_⟩; have n0_ := Aside0.mk (below_step bA hb); clear HB; have HB := n0_; clear n0_; (try clear hb)) | ((with_reducible refine gate_callee (f := 34) rfl ?_); refine gL_ 11 Try.func34 #[.slice A0 l0.length c0] ?_; (with_reducible refine (vinculumref08_ends.calls k _ _ l0 t115 t116 true _ ?side1 ?side2 A4.out).mono ?_); (case side1 => repeat (first | exact (Kd.C_below HR0.out HB.out) | (with_reducible refine Kd.C_alloc ?_ _) | (with_reducible refine Kd.C_drewN ?_ _) | (with_reducible refine Kd.C_drew ?_))); (case side2 => exact HC0.out); rintro e w' ⟨rfl, ⟨nd, rfl⟩⟩; refine ⟨_, rfl, ?_⟩))
    go_ret
    exact ⟨eA, bA⟩
   ·
    rw [if_neg c6] at H
    have c6b0 : decide ((wrap64 (t116 - t115)) < 2000) = false := decide_eq_false c6
    clear c6
    by_cases c8 : t116 > 65535
    ·
     rw [if_pos c8] at H
     have c8b0 : decide (65535 < t116) = true := decide_eq_true c8
     clear c8
     obtain rfl := Option.some.inj H
     go_enter Try.func17, Try.ntmps17
     go_wp2_with (first | ((with_reducible refine gate_callee (f := 33) rfl ?_); refine gL_ 7 Try.func33 #[.slice A0 l0.length c0] ?_; (with_reducible refine (vinculumref08_Is.calls k _ _ l0 true _ ?side1 ?side2 A2.out).mono ?_); (case side1 => exact cA HR0.out); (case side2 => exact HC0.out); rintro e w9 ⟨rfl, hb⟩; refine ⟨_, rfl, ?_⟩; have n0_ := Aside0.mk (below_step bA hb); clear HB; have HB := n0_; clear n0_; (try clear hb)) | ((with_reducible refine gate_callee (f := 34) rfl ?_); refine gL_ 11 Try.func34 #[.slice A0 l0.length c0] ?_; (with_reducible refine (vinculumref08_ends.calls k _ _ l0 t115 t116 true _ ?side1 ?side2 A4.out).mono ?_); (case side1 => repeat (first | exact (Kd.C_below HR0.out HB.out) | (with_reducible refine Kd.C_alloc ?_ _) | (with_reducible refine Kd.C_drewN ?_ _) | (with_reducible refine Kd.C_drew ?_))); (case side2 => exact HC0.out); rintro e w' ⟨rfl, ⟨nd, rfl⟩⟩; refine ⟨_, rfl, ?_⟩))
     go_ret
     exact ⟨eA, bA⟩
    ·
     rw [if_neg c8] at H
     have c8b0 : decide (65535 < t116) = false := decide_eq_false c8
     clear c8
     obtain rfl := Option.some.inj H
     go_enter Try.func17, Try.ntmps17
     go_wp2_with (first | ((with_reducible refine gate_callee (f := 33) rfl ?_); refine gL_ 7 Try.func33 #[.slice A0 l0.length c0] ?_; (with_reducible refine (vinculumref08_Is.calls k _ _ l0 true _ ?side1 ?side2 A2.out).mono ?_); (case side1 => exact cA HR0.out); (case side2 => exact HC0.out); rintro e w10 ⟨rfl, hb⟩; refine ⟨_, rfl, ?_⟩; have n0_ := Aside0.mk (below_step bA hb); clear HB; have HB := n0_; clear n0_; (try clear hb)) | ((with_reducible refine gate_callee (f := 34) rfl ?_); refine gL_ 11 Try.func34 #[.slice A0 l0.length c0] ?_; (with_reducible refine (vinculumref08_ends.calls k _ _ l0 t115 t116 true _ ?side1 ?side2 A4.out).mono ?_); (case side1 => repeat (first | exact (Kd.C_below HR0.out HB.out) | (with_reducible refine Kd.C_alloc ?_ _) | (with_reducible refine Kd.C_drewN ?_ _) | (with_reducible refine Kd.C_drew ?_))); (case side2 => exact HC0.out); rintro e w' ⟨rfl, ⟨nd, rfl⟩⟩; refine ⟨_, rfl, ?_⟩))
     go_ret
     exact ⟨eA, bA⟩
  ·
   replace c5 := Bool.eq_false_iff.mpr c5
   subst c5
   rw [if_neg Bool.false_ne_true] at H
   obtain rfl := Option.some.inj H
   go_enter Try.func17, Try.ntmps17
   go_wp2_with (first | ((with_reducible refine gate_callee (f := 33) rfl ?_); refine gL_ 7 Try.func33 #[.slice A0 l0.length c0] ?_; (with_reducible refine (vinculumref08_Is.calls k _ _ l0 true _ ?side1 ?side2 A2.out).mono ?_); (case side1 => exact cA HR0.out); (case side2 => exact HC0.out); rintro e w11 ⟨rfl, hb⟩; refine ⟨_, rfl, ?_⟩; have n0_ := Aside0.mk (below_step bA hb); clear HB; have HB := n0_; clear n0_; (try clear hb)) | ((with_reducible refine gate_callee (f := 34) rfl ?_); refine gL_ 11 Try.func34 #[.slice A0 l0.length c0] ?_; (with_reducible refine (vinculumref08_ends.calls k _ _ l0 t115 t116 false _ ?side1 ?side2 A4.out).mono ?_); (case side1 => repeat (first | exact (Kd.C_below HR0.out HB.out) | (with_reducible refine Kd.C_alloc ?_ _) | (with_reducible refine Kd.C_drewN ?_ _) | (with_reducible refine Kd.C_drew ?_))); (case side2 => exact HC0.out); rintro e w' ⟨rfl, ⟨nd, rfl⟩⟩; refine ⟨_, rfl, ?_⟩))
   go_ret
   exact ⟨eA, bA⟩
 ·
  replace c3 := Bool.eq_false_iff.mpr c3
  subst c3
  rw [if_neg Bool.false_ne_true] at H
  obtain rfl := Option.some.inj H
  go_enter Try.func17, Try.ntmps17
  go_wp2_with (first | ((with_reducible refine gate_callee (f := 33) rfl ?_); refine gL_ 7 Try.func33 #[.slice A0 l0.length c0] ?_; (with_reducible refine (vinculumref08_Is.calls k _ _ l0 false _ ?side1 ?side2 A2.out).mono ?_); (case side1 => exact cA HR0.out); (case side2 => exact HC0.out); rintro e w12 ⟨rfl, hb⟩; refine ⟨_, rfl, ?_⟩; have n0_ := Aside0.mk (below_step bA hb); clear HB; have HB := n0_; clear n0_; (try clear hb)))
  go_ret
  exact ⟨eA, bA⟩
def vinculumref08_Same.l0 : Nat → List (S50) → List (S50) → Int → Option (Bool)
 | 0, _, _, _ => none
 | k + 1, x0, x1, x5 => if x5 < (x0.length : Int) then (if 0 ≤ x5 then (if x5 < (x1.length : Int) then (if (!(((rd_T50 x0 x5).f0) == ((rd_T50 x1 x5).f0)) || (!(((rd_T50 x0 x5).f1) == ((rd_T50 x1 x5).f1)) || (!(((rd_T50 x0 x5).f2) == ((rd_T50 x1 x5).f2)) || (!(((rd_T50 x0 x5).f3) == ((rd_T50 x1 x5).f3)))))) = true then (some false) else (vinculumref08_Same.l0 k x0 x1 (wrap64 (x5 + 1)))) else (none)) else (none)) else (some true)
def vinculumref08_Same.f (k : Nat) (l0 : List (S50)) (l1 : List (S50)) : Option (Bool) := if (l0.length : Int) = (l1.length : Int) then (vinculumref08_Same.l0 k l0 l1 0) else (some false)
set_option maxHeartbeats 8000000 in
set_option maxRecDepth 100000 in
theorem vinculumref08_Same.calls (k : Nat) (A0 : Option Addr) (c0 : Nat) (l0 : List (S50)) (A1 : Option Addr) (c1 : Nat) (l1 : List (S50)) (r : Bool) (w : World) (hr0 : Kd.C k50 w A0 l0.length l0) (hc0 : l0.length ≤ c0) (hr1 : Kd.C k50 w A1 l1.length l1) (hc1 : l1.length ≤ c1) (h : vinculumref08_Same.f k l0 l1 = some r) :
  Calls Try.prog 14 #[.slice A0 l0.length c0, .slice A1 l1.length c1] w fun e w' => e = .returned (.bool r) ∧ Drawn0 w w' := by
 have hu50 := Try.underlying50
 have HR0 := Aside0.mk hr0
 have HC0 := Aside0.mk hc0
 clear hr0 hc0
 have HR1 := Aside0.mk hr1
 have HC1 := Aside0.mk hc1
 clear hr1 hc1
 have H : (if (l0.length : Int) = (l1.length : Int) then (vinculumref08_Same.l0 k l0 l1 0) else (some false)) = some r := h
 clear h
 by_cases c3 : (l0.length : Int) = (l1.length : Int)
 ·
  rw [if_pos c3] at H
  have c3b0 : ((l0.length : Int) == (l1.length : Int)) = true := beq_iff_eq.mpr c3
  have c3b1 : ((l0.length : Int) != (l1.length : Int)) = false := bne_eq_false_iff_eq.mpr c3
  have c3b2 : (l0.length == l1.length) = true := by first | simpa using c3 | (simp at c3 ⊢; omega)
  clear c3
  have H' := Aside0.mk H
  clear H
  go_enter Try.func14, Try.ntmps14
  go_wp2
  repeat (go_quiet (fail); try go_wp2)
  go_loopg [5] k (fun kq v5 w' => ∃ (x5_1 : Int), v5 = .int .i64 x5_1 ∧ Aside0 (vinculumref08_Same.l0 kq l0 l1 x5_1 = some r) ∧ Aside0 (kq ≤ k) ∧ Drawn0 w w')
  case atStart => exact ⟨(0), gA, H', ⟨Nat.le_refl _⟩, by repeat (first | exact Drawn0.refl _ | apply Drawn0.step)⟩
  case round =>
   clear H'
   try clear c1
   try clear p2
   try clear c3
   try clear c3b0
   try clear c3b1
   try clear c3b2
   obtain ⟨x5_1, rfl, HA, HK1, ⟨m1, rfl⟩⟩ := hrel
   cases gk with
   | zero => exact absurd HA.out (by simp [vinculumref08_Same.l0])
   | succ k1 =>
    have H := HA.out
    clear HA
    simp only [vinculumref08_Same.l0] at H
    by_cases c4 : x5_1 < (l0.length : Int)
    ·
     rw [if_pos c4] at H
     have c4b0 : decide (x5_1 < (l0.length : Int)) = true := decide_eq_true c4
     clear c4
     by_cases c5 : 0 ≤ x5_1
     ·
      rw [if_pos c5] at H
      have c5b0 : decide (0 ≤ x5_1) = true := decide_eq_true c5
      clear c5
      by_cases c6 : x5_1 < (l1.length : Int)
      ·
       rw [if_pos c6] at H
       have c6b0 : decide (x5_1 < (l1.length : Int)) = true := decide_eq_true c6
       clear c6
       by_cases c7 : (!(((rd_T50 l0 x5_1).f0) == ((rd_T50 l1 x5_1).f0)) || (!(((rd_T50 l0 x5_1).f1) == ((rd_T50 l1 x5_1).f1)) || (!(((rd_T50 l0 x5_1).f2) == ((rd_T50 l1 x5_1).f2)) || (!(((rd_T50 l0 x5_1).f3) == ((rd_T50 l1 x5_1).f3)))))) = true
       ·
        rw [if_pos c7] at H
        have c7b0 : (!(((rd_T50 l0 x5_1).f0) == ((rd_T50 l1 x5_1).f0)) || (!(((rd_T50 l0 x5_1).f1) == ((rd_T50 l1 x5_1).f1)) || (!(((rd_T50 l0 x5_1).f2) == ((rd_T50 l1 x5_1).f2)) || (!(((rd_T50 l0 x5_1).f3) == ((rd_T50 l1 x5_1).f3)))))) = true := c7
        clear c7
        obtain rfl := Option.some.inj H
        have p256 : 0 ≤ (x5_1 : Int) := of_decide_eq_true sA
        have q256 : x5_1 < (l0.length : Int) := of_decide_eq_true sA
        obtain ⟨ad256, e256, hx256_0, hx256_1, hx256_2, hx256_3⟩ := at_T50 HR0.out x5_1 p256 q256
        cases e256
        replace p256 := eq_true p256
        replace q256 := eq_true q256
        have p257 : 0 ≤ (x5_1 : Int) := of_decide_eq_true sA
        have q257 : x5_1 < (l1.length : Int) := of_decide_eq_true sA
        obtain ⟨ad257, e257, hx257_0, hx257_1, hx257_2, hx257_3⟩ := at_T50 HR1.out x5_1 p257 q257
        cases e257
        replace p257 := eq_true p257
        replace q257 := eq_true q257
        go_wp2
        repeat (go_quiet (fail); try go_wp2)
        go_ret
        exact ⟨by first | rfl | (simp; done) | (simp [*]; done), by repeat (first | exact Drawn0.refl _ | apply Drawn0.step)⟩
       ·
        rw [if_neg c7] at H
        have c7b0 : (!(((rd_T50 l0 x5_1).f0) == ((rd_T50 l1 x5_1).f0)) || (!(((rd_T50 l0 x5_1).f1) == ((rd_T50 l1 x5_1).f1)) || (!(((rd_T50 l0 x5_1).f2) == ((rd_T50 l1 x5_1).f2)) || (!(((rd_T50 l0 x5_1).f3) == ((rd_T50 l1 x5_1).f3)))))) = false := by simpa using c7
        clear c7
        have H' := Aside0.mk H
        clear H
        have p256 : 0 ≤ (x5_1 : Int) := of_decide_eq_true sA
        have q256 : x5_1 < (l0.length : Int) := of_decide_eq_true sA
        obtain ⟨ad256, e256, hx256_0, hx256_1, hx256_2, hx256_3⟩ := at_T50 HR0.out x5_1 p256 q256
        cases e256
        replace p256 := eq_true p256
        replace q256 := eq_true q256
        have p257 : 0 ≤ (x5_1 : Int) := of_decide_eq_true sA
        have q257 : x5_1 < (l1.length : Int) := of_decide_eq_true sA
        obtain ⟨ad257, e257, hx257_0, hx257_1, hx257_2, hx257_3⟩ := at_T50 HR1.out x5_1 p257 q257
        cases e257
        replace p257 := eq_true p257
        replace q257 := eq_true q257
        go_wp2
        repeat (go_quiet (fail); try go_wp2)
        go_roundg k1
        case measure => have := HK1.out; omega
        case rel => exact ⟨(wrap64 (x5_1 + 1)), gA, H', ⟨by have := HK1.out; omega⟩, by repeat (first | exact Drawn0.refl _ | apply Drawn0.step)⟩
      ·
       rw [if_neg c6] at H
       exact absurd H (by simp)
     ·
      rw [if_neg c5] at H
      exact absurd H (by simp)
    ·
     rw [if_neg c4] at H
     have c4b0 : decide (x5_1 < (l0.length : Int)) = false := decide_eq_false c4
     clear c4
     obtain rfl := Option.some.inj H
     go_wp2
     repeat (go_quiet (fail); try go_wp2)
     go_ret
     exact ⟨by first | rfl | (simp; done) | (simp [*]; done), by repeat (first | exact Drawn0.refl _ | apply Drawn0.step)⟩
 ·
  rw [if_neg c3] at H
  have c3b0 : ((l0.length : Int) == (l1.length : Int)) = false := beq_eq_false_iff_ne.mpr c3
  have c3b1 : ((l0.length : Int) != (l1.length : Int)) = true := bne_iff_ne.mpr c3
  have c3b2 : (l0.length == l1.length) = false := by first | simpa using c3 | (simp at c3 ⊢; omega)
  obtain rfl := Option.some.inj H
  go_enter Try.func14, Try.ntmps14
  go_wp2
  repeat (go_quiet (fail); try go_wp2)
  go_ret
  exact ⟨by first | rfl | (simp; done) | (simp [*]; done), by repeat (first | exact Drawn0.refl _ | apply Drawn0.step)⟩
end Go.Proofs.Ytejdflndgnpkcaa.P
end
section
namespace Go.Proofs.Ytejdflndgnpkcaa.P
open Go.RowKit Go.Proofs.YtejdflndgnpkcaaW.PrintWords Go.Proofs.YtejdflndgnpkcaaW.PrintLast Go.Proofs.YtejdflndgnpkcaaW.PrintMore
attribute [local go_sem] max2_int min2_int max_two min_two max_three min_three max_four min_four
mutual
def vinculumref09_Short.l0 : Nat → List (S50) → Int → Int → Option (Bool)
 | 0, _, _, _ => none
 | k + 1, x0, x3, x4 => if x4 < (x0.length : Int) then (vinculumref09_Short.j1 k x0 x3 x4 (decide ((x0.length : Int) ≤ 60))) else (vinculumref09_Short.j1 k x0 x3 x4 false)
def vinculumref09_Short.j1 : Nat → List (S50) → Int → Int → Bool → Option (Bool)
 | 0, _, _, _, _ => none
 | k + 1, x0, x3, x4, x13 => if x13 = true then (if 0 ≤ x4 then (if x4 < (x0.length : Int) then (if (wrap64 (((rd_T50 x0 x4).f1) - ((rd_T50 x0 x4).f0))) > 40000 then (vinculumref09_Short.l0 k x0 x3 (wrap64 (x4 + 1))) else (vinculumref09_Short.l0 k x0 (wrap64 ((wrap64 (x3 + ((rd_T50 x0 x4).f1))) - ((rd_T50 x0 x4).f0))) (wrap64 (x4 + 1)))) else (none)) else (none)) else (if (x0.length : Int) ≤ 60 then (some (decide (x3 ≤ 3000))) else (some false))
end
def vinculumref09_Short.f (k : Nat) (l0 : List (S50)) : Option (Bool) := vinculumref09_Short.l0 k l0 0 0
set_option maxHeartbeats 8000000 in
set_option maxRecDepth 100000 in
theorem vinculumref09_Short.calls (k : Nat) (A0 : Option Addr) (c0 : Nat) (l0 : List (S50)) (r : Bool) (w : World) (hr0 : Kd.C k50 w A0 l0.length l0) (hc0 : l0.length ≤ c0) (h : vinculumref09_Short.f k l0 = some r) :
  Calls Try.prog 18 #[.slice A0 l0.length c0] w fun e w' => e = .returned (.bool r) ∧ Drawn0 w w' := by
 have HR0 := Aside0.mk hr0
 have HC0 := Aside0.mk hc0
 clear hr0 hc0
 have H : (vinculumref09_Short.l0 k l0 0 0) = some r := h
 clear h
 have H' := Aside0.mk H
 clear H
 go_enter Try.func18, Try.ntmps18
 go_wp2
 repeat (go_quiet (fail); try go_wp2)
 go_loopg [3, 4] k (fun kq v3 v4 w' => ∃ (x3_1 : Int) (x4_1 : Int), v3 = .int .i64 x3_1 ∧ v4 = .int .i64 x4_1 ∧ Aside0 (vinculumref09_Short.l0 kq l0 x3_1 x4_1 = some r) ∧ Aside0 (kq ≤ k) ∧ Drawn0 w w')
 case atStart => exact ⟨(0), (0), gA, gA, H', ⟨Nat.le_refl _⟩, by repeat (first | exact Drawn0.refl _ | apply Drawn0.step)⟩
 case round =>
  clear H'
  try clear c1
  obtain ⟨x3_1, x4_1, rfl, rfl, HA, HK1, ⟨m1, rfl⟩⟩ := hrel
  cases gk with
  | zero => exact absurd HA.out (by simp [vinculumref09_Short.l0])
  | succ k1 =>
   have H := HA.out
   clear HA
   simp only [vinculumref09_Short.l0] at H
   have HC2 := Aside0.mk H
   clear H
   go_upto_region 3 with (fail)
   repeat (go_quiet (fail); go_upto_region 3 with (fail))
   go_cut [13] (fun v13 wc => ∃ (kq : Nat) (x13_1 : Bool), v13 = .bool x13_1 ∧ Aside0 (vinculumref09_Short.j1 kq l0 x3_1 x4_1 x13_1 = some r) ∧ Aside0 (kq ≤ k1) ∧ Drawn0 w wc)
   case first =>
    have H := HC2.out
    clear HC2
    by_cases c3 : x4_1 < (l0.length : Int)
    ·
     rw [if_pos c3] at H
     have c3b0 : decide (x4_1 < (l0.length : Int)) = true := decide_eq_true c3
     clear c3
     (first | rw [c3b0] | (simp only [i64_w, i32_w]; rw [c3b0]) | skip)
     have H' := Aside0.mk H
     clear H
     go_wp2
     repeat (go_quiet (fail); try go_wp2)
     go_meet
     case rel => exact ⟨_, (decide ((l0.length : Int) ≤ 60)), gA, H', ⟨by have := HK1.out; first | omega | exact Nat.le_refl _⟩, by repeat (first | exact Drawn0.refl _ | apply Drawn0.step)⟩
    ·
     rw [if_neg c3] at H
     have c3b0 : decide (x4_1 < (l0.length : Int)) = false := decide_eq_false c3
     clear c3
     (first | rw [c3b0] | (simp only [i64_w, i32_w]; rw [c3b0]) | skip)
     have H' := Aside0.mk H
     clear H
     go_wp2
     repeat (go_quiet (fail); try go_wp2)
     go_meet
     case rel => exact ⟨_, (false), gA, H', ⟨by have := HK1.out; first | omega | exact Nat.le_refl _⟩, by repeat (first | exact Drawn0.refl _ | apply Drawn0.step)⟩
   case rest =>
    clear HC2
    try clear c1
    try clear p2
    try clear c3
    try clear c3b0
    obtain ⟨kq, x13_1, rfl, HA, HJ1, ⟨mc1, rfl⟩⟩ := hcut
    cases kq with
    | zero => exact absurd HA.out (by simp [vinculumref09_Short.j1])
    | succ kj1 =>
     have H := HA.out
     clear HA
     simp only [vinculumref09_Short.j1] at H
     by_cases c4 : x13_1 = true
     ·
      subst c4
      rw [if_pos rfl] at H
      by_cases c5 : 0 ≤ x4_1
      ·
       rw [if_pos c5] at H
       have c5b0 : decide (0 ≤ x4_1) = true := decide_eq_true c5
       clear c5
       by_cases c6 : x4_1 < (l0.length : Int)
       ·
        rw [if_pos c6] at H
        have c6b0 : decide (x4_1 < (l0.length : Int)) = true := decide_eq_true c6
        clear c6
        by_cases c7 : (wrap64 (((rd_T50 l0 x4_1).f1) - ((rd_T50 l0 x4_1).f0))) > 40000
        ·
         rw [if_pos c7] at H
         have c7b0 : decide (40000 < (wrap64 (((rd_T50 l0 x4_1).f1) - ((rd_T50 l0 x4_1).f0)))) = true := decide_eq_true c7
         clear c7
         have H' := Aside0.mk H
         clear H
         have p118 : 0 ≤ (x4_1 : Int) := of_decide_eq_true sA
         have q118 : x4_1 < (l0.length : Int) := of_decide_eq_true sA
         obtain ⟨ad118, e118, hx118_0, hx118_1, hx118_2, hx118_3⟩ := at_T50 HR0.out x4_1 p118 q118
         cases e118
         replace p118 := eq_true p118
         replace q118 := eq_true q118
         have p119 : 0 ≤ (x4_1 : Int) := of_decide_eq_true sA
         have q119 : x4_1 < (l0.length : Int) := of_decide_eq_true sA
         obtain ⟨ad119, e119, hx119_0, hx119_1, hx119_2, hx119_3⟩ := at_T50 HR0.out x4_1 p119 q119
         obtain rfl : ad118 = ad119 := (by injection e119)
         replace p119 := eq_true p119
         replace q119 := eq_true q119
         go_wp2
         repeat (go_quiet (fail); try go_wp2)
         go_roundg kj1
         case measure => have := HK1.out; have := HJ1.out; omega
         case rel => exact ⟨(x3_1), (wrap64 (x4_1 + 1)), gA, gA, H', ⟨by have := HK1.out; have := HJ1.out; omega⟩, by repeat (first | exact Drawn0.refl _ | apply Drawn0.step)⟩
        ·
         rw [if_neg c7] at H
         have c7b0 : decide (40000 < (wrap64 (((rd_T50 l0 x4_1).f1) - ((rd_T50 l0 x4_1).f0)))) = false := decide_eq_false c7
         clear c7
         have H' := Aside0.mk H
         clear H
         have p118 : 0 ≤ (x4_1 : Int) := of_decide_eq_true sA
         have q118 : x4_1 < (l0.length : Int) := of_decide_eq_true sA
         obtain ⟨ad118, e118, hx118_0, hx118_1, hx118_2, hx118_3⟩ := at_T50 HR0.out x4_1 p118 q118
         cases e118
         replace p118 := eq_true p118
         replace q118 := eq_true q118
         have p119 : 0 ≤ (x4_1 : Int) := of_decide_eq_true sA
         have q119 : x4_1 < (l0.length : Int) := of_decide_eq_true sA
         obtain ⟨ad119, e119, hx119_0, hx119_1, hx119_2, hx119_3⟩ := at_T50 HR0.out x4_1 p119 q119
         obtain rfl : ad118 = ad119 := (by injection e119)
         replace p119 := eq_true p119
         replace q119 := eq_true q119
         have p120 : 0 ≤ (x4_1 : Int) := of_decide_eq_true sA
         have q120 : x4_1 < (l0.length : Int) := of_decide_eq_true sA
         obtain ⟨ad120, e120, hx120_0, hx120_1, hx120_2, hx120_3⟩ := at_T50 HR0.out x4_1 p120 q120
         obtain rfl : ad118 = ad120 := (by injection e120)
         replace p120 := eq_true p120
         replace q120 := eq_true q120
         have p121 : 0 ≤ (x4_1 : Int) := of_decide_eq_true sA
         have q121 : x4_1 < (l0.length : Int) := of_decide_eq_true sA
         obtain ⟨ad121, e121, hx121_0, hx121_1, hx121_2, hx121_3⟩ := at_T50 HR0.out x4_1 p121 q121
         obtain rfl : ad118 = ad121 := (by injection e121)
         replace p121 := eq_true p121
         replace q121 := eq_true q121
         go_wp2
         repeat (go_quiet (fail); try go_wp2)
         go_roundg kj1
         case measure => have := HK1.out; have := HJ1.out; omega
         case rel => exact ⟨(wrap64 ((wrap64 (x3_1 + ((rd_T50 l0 x4_1).f1))) - ((rd_T50 l0 x4_1).f0))), (wrap64 (x4_1 + 1)), gA, gA, H', ⟨by have := HK1.out; have := HJ1.out; omega⟩, by repeat (first | exact Drawn0.refl _ | apply Drawn0.step)⟩
       ·
        rw [if_neg c6] at H
        exact absurd H (by simp)
      ·
       rw [if_neg c5] at H
       exact absurd H (by simp)
     ·
      replace c4 := Bool.eq_false_iff.mpr c4
      subst c4
      rw [if_neg Bool.false_ne_true] at H
      by_cases c8 : (l0.length : Int) ≤ 60
      ·
       rw [if_pos c8] at H
       have c8b0 : decide ((l0.length : Int) ≤ 60) = true := decide_eq_true c8
       have c8b1 : decide (l0.length ≤ 60) = true := decide_eq_true (by omega)
       clear c8
       obtain rfl := Option.some.inj H
       go_wp2
       repeat (go_quiet (fail); try go_wp2)
       go_ret
       exact ⟨by first | rfl | (simp; done) | (simp [*]; done), by repeat (first | exact Drawn0.refl _ | apply Drawn0.step)⟩
      ·
       rw [if_neg c8] at H
       have c8b0 : decide ((l0.length : Int) ≤ 60) = false := decide_eq_false c8
       have c8b1 : decide (l0.length ≤ 60) = false := decide_eq_false (by omega)
       clear c8
       obtain rfl := Option.some.inj H
       go_wp2
       repeat (go_quiet (fail); try go_wp2)
       go_ret
       exact ⟨by first | rfl | (simp; done) | (simp [*]; done), by repeat (first | exact Drawn0.refl _ | apply Drawn0.step)⟩
end Go.Proofs.Ytejdflndgnpkcaa.P
end
section
namespace Go.Proofs.Ytejdflndgnpkcaa.P
open Go.RowKit Go.Proofs.YtejdflndgnpkcaaW.PrintWords Go.Proofs.YtejdflndgnpkcaaW.PrintLast Go.Proofs.YtejdflndgnpkcaaW.PrintMore
attribute [local go_sem] max2_int min2_int max_two min_two max_three min_three max_four min_four
mutual
def vinculumref10_Short.l0 : Nat → List (S50) → Int → Option (Bool)
 | 0, _, _ => none
 | k + 1, x0, x3 => if x3 < (x0.length : Int) then (vinculumref10_Short.j1 k x0 x3 (decide ((x0.length : Int) ≤ 60))) else (vinculumref10_Short.j1 k x0 x3 false)
def vinculumref10_Short.j1 : Nat → List (S50) → Int → Bool → Option (Bool)
 | 0, _, _, _ => none
 | k + 1, x0, x3, x13 => if x13 = true then (if 0 ≤ x3 then (if x3 < (x0.length : Int) then (if (wrap64 (((rd_T50 x0 x3).f1) - ((rd_T50 x0 x3).f0))) > 1000 then (if (wrap64 (((rd_T50 x0 x3).f1) - ((rd_T50 x0 x3).f0))) < 70000 then (some false) else (vinculumref10_Short.l0 k x0 (wrap64 (x3 + 1)))) else (vinculumref10_Short.l0 k x0 (wrap64 (x3 + 1)))) else (none)) else (none)) else (some (decide ((x0.length : Int) ≤ 60)))
end
def vinculumref10_Short.f (k : Nat) (l0 : List (S50)) : Option (Bool) := vinculumref10_Short.l0 k l0 0
set_option maxHeartbeats 8000000 in
set_option maxRecDepth 100000 in
theorem vinculumref10_Short.calls (k : Nat) (A0 : Option Addr) (c0 : Nat) (l0 : List (S50)) (r : Bool) (w : World) (hr0 : Kd.C k50 w A0 l0.length l0) (hc0 : l0.length ≤ c0) (h : vinculumref10_Short.f k l0 = some r) :
  Calls Try.prog 19 #[.slice A0 l0.length c0] w fun e w' => e = .returned (.bool r) ∧ Drawn0 w w' := by
 have HR0 := Aside0.mk hr0
 have HC0 := Aside0.mk hc0
 clear hr0 hc0
 have H : (vinculumref10_Short.l0 k l0 0) = some r := h
 clear h
 have H' := Aside0.mk H
 clear H
 go_enter Try.func19, Try.ntmps19
 go_wp2
 repeat (go_quiet (fail); try go_wp2)
 go_loopg [3] k (fun kq v3 w' => ∃ (x3_1 : Int), v3 = .int .i64 x3_1 ∧ Aside0 (vinculumref10_Short.l0 kq l0 x3_1 = some r) ∧ Aside0 (kq ≤ k) ∧ Drawn0 w w')
 case atStart => exact ⟨(0), gA, H', ⟨Nat.le_refl _⟩, by repeat (first | exact Drawn0.refl _ | apply Drawn0.step)⟩
 case round =>
  clear H'
  try clear c1
  obtain ⟨x3_1, rfl, HA, HK1, ⟨m1, rfl⟩⟩ := hrel
  cases gk with
  | zero => exact absurd HA.out (by simp [vinculumref10_Short.l0])
  | succ k1 =>
   have H := HA.out
   clear HA
   simp only [vinculumref10_Short.l0] at H
   have HC2 := Aside0.mk H
   clear H
   go_upto_region 2 with (fail)
   repeat (go_quiet (fail); go_upto_region 2 with (fail))
   go_cut [13] (fun v13 wc => ∃ (kq : Nat) (x13_1 : Bool), v13 = .bool x13_1 ∧ Aside0 (vinculumref10_Short.j1 kq l0 x3_1 x13_1 = some r) ∧ Aside0 (kq ≤ k1) ∧ Drawn0 w wc)
   case first =>
    have H := HC2.out
    clear HC2
    by_cases c3 : x3_1 < (l0.length : Int)
    ·
     rw [if_pos c3] at H
     have c3b0 : decide (x3_1 < (l0.length : Int)) = true := decide_eq_true c3
     clear c3
     (first | rw [c3b0] | (simp only [i64_w, i32_w]; rw [c3b0]) | skip)
     have H' := Aside0.mk H
     clear H
     go_wp2
     repeat (go_quiet (fail); try go_wp2)
     go_meet
     case rel => exact ⟨_, (decide ((l0.length : Int) ≤ 60)), gA, H', ⟨by have := HK1.out; first | omega | exact Nat.le_refl _⟩, by repeat (first | exact Drawn0.refl _ | apply Drawn0.step)⟩
    ·
     rw [if_neg c3] at H
     have c3b0 : decide (x3_1 < (l0.length : Int)) = false := decide_eq_false c3
     clear c3
     (first | rw [c3b0] | (simp only [i64_w, i32_w]; rw [c3b0]) | skip)
     have H' := Aside0.mk H
     clear H
     go_wp2
     repeat (go_quiet (fail); try go_wp2)
     go_meet
     case rel => exact ⟨_, (false), gA, H', ⟨by have := HK1.out; first | omega | exact Nat.le_refl _⟩, by repeat (first | exact Drawn0.refl _ | apply Drawn0.step)⟩
   case rest =>
    clear HC2
    try clear c1
    try clear p2
    try clear c3
    try clear c3b0
    obtain ⟨kq, x13_1, rfl, HA, HJ1, ⟨mc1, rfl⟩⟩ := hcut
    cases kq with
    | zero => exact absurd HA.out (by simp [vinculumref10_Short.j1])
    | succ kj1 =>
     have H := HA.out
     clear HA
     simp only [vinculumref10_Short.j1] at H
     by_cases c4 : x13_1 = true
     ·
      subst c4
      rw [if_pos rfl] at H
      by_cases c5 : 0 ≤ x3_1
      ·
       rw [if_pos c5] at H
       have c5b0 : decide (0 ≤ x3_1) = true := decide_eq_true c5
       clear c5
       by_cases c6 : x3_1 < (l0.length : Int)
       ·
        rw [if_pos c6] at H
        have c6b0 : decide (x3_1 < (l0.length : Int)) = true := decide_eq_true c6
        clear c6
        by_cases c7 : (wrap64 (((rd_T50 l0 x3_1).f1) - ((rd_T50 l0 x3_1).f0))) > 1000
        ·
         rw [if_pos c7] at H
         have c7b0 : decide (1000 < (wrap64 (((rd_T50 l0 x3_1).f1) - ((rd_T50 l0 x3_1).f0)))) = true := decide_eq_true c7
         clear c7
         by_cases c8 : (wrap64 (((rd_T50 l0 x3_1).f1) - ((rd_T50 l0 x3_1).f0))) < 70000
         ·
          rw [if_pos c8] at H
          have c8b0 : decide ((wrap64 (((rd_T50 l0 x3_1).f1) - ((rd_T50 l0 x3_1).f0))) < 70000) = true := decide_eq_true c8
          clear c8
          obtain rfl := Option.some.inj H
          have p122 : 0 ≤ (x3_1 : Int) := of_decide_eq_true sA
          have q122 : x3_1 < (l0.length : Int) := of_decide_eq_true sA
          obtain ⟨ad122, e122, hx122_0, hx122_1, hx122_2, hx122_3⟩ := at_T50 HR0.out x3_1 p122 q122
          cases e122
          replace p122 := eq_true p122
          replace q122 := eq_true q122
          have p123 : 0 ≤ (x3_1 : Int) := of_decide_eq_true sA
          have q123 : x3_1 < (l0.length : Int) := of_decide_eq_true sA
          obtain ⟨ad123, e123, hx123_0, hx123_1, hx123_2, hx123_3⟩ := at_T50 HR0.out x3_1 p123 q123
          obtain rfl : ad122 = ad123 := (by injection e123)
          replace p123 := eq_true p123
          replace q123 := eq_true q123
          go_wp2
          repeat (go_quiet (fail); try go_wp2)
          go_ret
          exact ⟨by first | rfl | (simp; done) | (simp [*]; done), by repeat (first | exact Drawn0.refl _ | apply Drawn0.step)⟩
         ·
          rw [if_neg c8] at H
          have c8b0 : decide ((wrap64 (((rd_T50 l0 x3_1).f1) - ((rd_T50 l0 x3_1).f0))) < 70000) = false := decide_eq_false c8
          clear c8
          have H' := Aside0.mk H
          clear H
          have p122 : 0 ≤ (x3_1 : Int) := of_decide_eq_true sA
          have q122 : x3_1 < (l0.length : Int) := of_decide_eq_true sA
          obtain ⟨ad122, e122, hx122_0, hx122_1, hx122_2, hx122_3⟩ := at_T50 HR0.out x3_1 p122 q122
          cases e122
          replace p122 := eq_true p122
          replace q122 := eq_true q122
          have p123 : 0 ≤ (x3_1 : Int) := of_decide_eq_true sA
          have q123 : x3_1 < (l0.length : Int) := of_decide_eq_true sA
          obtain ⟨ad123, e123, hx123_0, hx123_1, hx123_2, hx123_3⟩ := at_T50 HR0.out x3_1 p123 q123
          obtain rfl : ad122 = ad123 := (by injection e123)
          replace p123 := eq_true p123
          replace q123 := eq_true q123
          go_wp2
          repeat (go_quiet (fail); try go_wp2)
          go_roundg kj1
          case measure => have := HK1.out; have := HJ1.out; omega
          case rel => exact ⟨(wrap64 (x3_1 + 1)), gA, H', ⟨by have := HK1.out; have := HJ1.out; omega⟩, by repeat (first | exact Drawn0.refl _ | apply Drawn0.step)⟩
        ·
         rw [if_neg c7] at H
         have c7b0 : decide (1000 < (wrap64 (((rd_T50 l0 x3_1).f1) - ((rd_T50 l0 x3_1).f0)))) = false := decide_eq_false c7
         clear c7
         have H' := Aside0.mk H
         clear H
         have p122 : 0 ≤ (x3_1 : Int) := of_decide_eq_true sA
         have q122 : x3_1 < (l0.length : Int) := of_decide_eq_true sA
         obtain ⟨ad122, e122, hx122_0, hx122_1, hx122_2, hx122_3⟩ := at_T50 HR0.out x3_1 p122 q122
         cases e122
         replace p122 := eq_true p122
         replace q122 := eq_true q122
         have p123 : 0 ≤ (x3_1 : Int) := of_decide_eq_true sA
         have q123 : x3_1 < (l0.length : Int) := of_decide_eq_true sA
         obtain ⟨ad123, e123, hx123_0, hx123_1, hx123_2, hx123_3⟩ := at_T50 HR0.out x3_1 p123 q123
         obtain rfl : ad122 = ad123 := (by injection e123)
         replace p123 := eq_true p123
         replace q123 := eq_true q123
         go_wp2
         repeat (go_quiet (fail); try go_wp2)
         go_roundg kj1
         case measure => have := HK1.out; have := HJ1.out; omega
         case rel => exact ⟨(wrap64 (x3_1 + 1)), gA, H', ⟨by have := HK1.out; have := HJ1.out; omega⟩, by repeat (first | exact Drawn0.refl _ | apply Drawn0.step)⟩
       ·
        rw [if_neg c6] at H
        exact absurd H (by simp)
      ·
       rw [if_neg c5] at H
       exact absurd H (by simp)
     ·
      replace c4 := Bool.eq_false_iff.mpr c4
      subst c4
      rw [if_neg Bool.false_ne_true] at H
      obtain rfl := Option.some.inj H
      go_wp2
      repeat (go_quiet (fail); try go_wp2)
      go_ret
      exact ⟨by first | rfl | (simp; done) | (simp [*]; done), by repeat (first | exact Drawn0.refl _ | apply Drawn0.step)⟩
end Go.Proofs.Ytejdflndgnpkcaa.P
end
section
namespace Go.Proofs.Ytejdflndgnpkcaa.P
open Go.RowKit Go.Proofs.YtejdflndgnpkcaaW.PrintWords Go.Proofs.YtejdflndgnpkcaaW.PrintLast Go.Proofs.YtejdflndgnpkcaaW.PrintMore
attribute [local go_sem] max2_int min2_int max_two min_two max_three min_three max_four min_four
def vinculumref11_Short.f (k : Nat) (l0 : List (S50)) : Option (Bool) := (vinculumref08_Short.f k l0).bind fun t124 => (if t124 = true then ((vinculumref09_Short.f k l0).bind fun t125 => (if t125 = true then ((vinculumref10_Short.f k l0).bind fun t126 => (some t126)) else (some false))) else (some false))
set_option maxHeartbeats 8000000 in
set_option maxRecDepth 100000 in
theorem vinculumref11_Short.calls (k : Nat) (A0 : Option Addr) (c0 : Nat) (l0 : List (S50)) (r : Bool) (w : World) (hr0 : Kd.C k50 w A0 l0.length l0) (hc0 : l0.length ≤ c0) (h : vinculumref11_Short.f k l0 = some r) :
  Calls Try.prog 6 #[.slice A0 l0.length c0] w fun e w' => e = .returned (.bool r) ∧ Below w.heap.size w w' := by
 have HR0 := Aside0.mk hr0
 have HC0 := Aside0.mk hc0
 clear hr0 hc0
 have HB := Aside0.mk (Below.refl w.heap.size w)
 have H : ((vinculumref08_Short.f k l0).bind fun t124 => (if t124 = true then ((vinculumref09_Short.f k l0).bind fun t125 => (if t125 = true then ((vinculumref10_Short.f k l0).bind fun t126 => (some t126)) else (some false))) else (some false))) = some r := h
 clear h
 replace H := Option.bind_eq_some_iff.mp H
 obtain ⟨t124, A20, H⟩ := H
 try dsimp only at H
 have A2 := Aside0.mk A20
 clear A20
 by_cases c3 : t124 = true
 ·
  subst c3
  rw [if_pos rfl] at H
  replace H := Option.bind_eq_some_iff.mp H
  obtain ⟨t125, A40, H⟩ := H
  try dsimp only at H
  have A4 := Aside0.mk A40
  clear A40
  by_cases c5 : t125 = true
  ·
   subst c5
   rw [if_pos rfl] at H
   replace H := Option.bind_eq_some_iff.mp H
   obtain ⟨t126, A60, H⟩ := H
   try dsimp only at H
   have A6 := Aside0.mk A60
   clear A60
   obtain rfl := Option.some.inj H
   go_enter Try.func6, Try.ntmps6
   go_wp2_with (first | ((with_reducible refine gate_callee (f := 17) rfl ?_); refine gL_ 4 Try.func17 #[.slice A0 l0.length c0] ?_; (with_reducible refine (vinculumref08_Short.calls k _ _ l0 true _ ?side1 ?side2 A2.out).mono ?_); (case side1 => exact cA HR0.out); (case side2 => exact HC0.out); rintro e w7 ⟨rfl, hb⟩; refine ⟨_, rfl, ?_⟩; have n0_ := Aside0.mk (below_step bA hb); clear HB; have HB := n0_; clear n0_; (try clear hb)) | (go_at_call 18; (with_reducible refine (vinculumref09_Short.calls k _ _ l0 true _ ?side1 ?side2 A4.out).mono ?_); (case side1 => repeat (first | exact (Kd.C_below HR0.out HB.out) | (with_reducible refine Kd.C_alloc ?_ _) | (with_reducible refine Kd.C_drewN ?_ _) | (with_reducible refine Kd.C_drew ?_))); (case side2 => exact HC0.out); rintro e w' ⟨rfl, ⟨nd, rfl⟩⟩) | (go_at_call 19; (with_reducible refine (vinculumref10_Short.calls k _ _ l0 t126 _ ?side1 ?side2 A6.out).mono ?_); (case side1 => repeat (first | exact (Kd.C_below HR0.out bA) | (with_reducible refine Kd.C_alloc ?_ _) | (with_reducible refine Kd.C_drewN ?_ _) | (with_reducible refine Kd.C_drew ?_))); (case side2 => exact HC0.out); rintro e w' ⟨rfl, ⟨nd, rfl⟩⟩))
   go_ret
   exact ⟨eA, bA⟩
  ·
   replace c5 := Bool.eq_false_iff.mpr c5
   subst c5
   rw [if_neg Bool.false_ne_true] at H
   obtain rfl := Option.some.inj H
   go_enter Try.func6, Try.ntmps6
   go_wp2_with (first | ((with_reducible refine gate_callee (f := 17) rfl ?_); refine gL_ 4 Try.func17 #[.slice A0 l0.length c0] ?_; (with_reducible refine (vinculumref08_Short.calls k _ _ l0 true _ ?side1 ?side2 A2.out).mono ?_); (case side1 => exact cA HR0.out); (case side2 => exact HC0.out); rintro e w8 ⟨rfl, hb⟩; refine ⟨_, rfl, ?_⟩; have n0_ := Aside0.mk (below_step bA hb); clear HB; have HB := n0_; clear n0_; (try clear hb)) | (go_at_call 18; (with_reducible refine (vinculumref09_Short.calls k _ _ l0 false _ ?side1 ?side2 A4.out).mono ?_); (case side1 => repeat (first | exact (Kd.C_below HR0.out HB.out) | (with_reducible refine Kd.C_alloc ?_ _) | (with_reducible refine Kd.C_drewN ?_ _) | (with_reducible refine Kd.C_drew ?_))); (case side2 => exact HC0.out); rintro e w' ⟨rfl, ⟨nd, rfl⟩⟩))
   go_ret
   exact ⟨eA, bA⟩
 ·
  replace c3 := Bool.eq_false_iff.mpr c3
  subst c3
  rw [if_neg Bool.false_ne_true] at H
  obtain rfl := Option.some.inj H
  go_enter Try.func6, Try.ntmps6
  go_wp2_with (first | ((with_reducible refine gate_callee (f := 17) rfl ?_); refine gL_ 4 Try.func17 #[.slice A0 l0.length c0] ?_; (with_reducible refine (vinculumref08_Short.calls k _ _ l0 false _ ?side1 ?side2 A2.out).mono ?_); (case side1 => exact cA HR0.out); (case side2 => exact HC0.out); rintro e w9 ⟨rfl, hb⟩; refine ⟨_, rfl, ?_⟩; have n0_ := Aside0.mk (below_step bA hb); clear HB; have HB := n0_; clear n0_; (try clear hb)))
  go_ret
  exact ⟨eA, bA⟩
end Go.Proofs.Ytejdflndgnpkcaa.P
end
section
namespace Go.Proofs.Ytejdflndgnpkcaa.P
open Go.RowKit Go.Proofs.YtejdflndgnpkcaaW.PrintWords Go.Proofs.YtejdflndgnpkcaaW.PrintLast Go.Proofs.YtejdflndgnpkcaaW.PrintMore
attribute [local go_sem] max2_int min2_int max_two min_two max_three min_three max_four min_four
theorem eqA41 (d : Nat) (w : World) (x0 y0 : Int) (x1 y1 : Int) :
  (Op.equalIn (d + 2) 41 (.agg #[.int .i64 x0, .int .i64 x1]) (.agg #[.int .i64 y0, .int .i64 y1])).run Try.prog w = .ok (x0 == y0 && (x1 == y1)) w := by
 refine eqA_of Try.underlying41 (by kernel_rfl) ?_
 refine eqf_cons (by rfl) (by go_simp; rfl) (by go_simp; rfl) (by go_simp) ?_
 exact eqf_last (by rfl) (by go_simp; rfl) (by go_simp; rfl) (by go_simp)
end Go.Proofs.Ytejdflndgnpkcaa.P
end
section
namespace Go.Proofs.Ytejdflndgnpkcaa.P
open Go.RowKit Go.Proofs.YtejdflndgnpkcaaW.PrintWords Go.Proofs.YtejdflndgnpkcaaW.PrintLast Go.Proofs.YtejdflndgnpkcaaW.PrintMore
attribute [local go_sem] max2_int min2_int max_two min_two max_three min_three max_four min_four
attribute [local go_sem high] eqA41
def cmap_kind.l0 : Nat → List (S41) → Int → Int → Int → Int → Option (Int)
 | 0, _, _, _, _, _ => none
 | k + 1, x0, x7, x8, x221000, x221001 => if x8 < x7 then (if 0 ≤ x8 then (if x8 < (x0.length : Int) then (if (x221000 == ((rd_T41 x0 x8).f0) && (x221001 == ((rd_T41 x0 x8).f1))) = true then (some x8) else (cmap_kind.l0 k x0 x7 (wrap64 (x8 + 1)) x221000 x221001)) else (none)) else (none)) else (some (-1))
def cmap_kind.f (k : Nat) (l0 : List (S41)) (a1_0 : Int) (a1_1 : Int) : Option (Int) := cmap_kind.l0 k l0 (l0.length : Int) 0 a1_0 a1_1
set_option maxHeartbeats 8000000 in
set_option maxRecDepth 100000 in
theorem cmap_kind.calls (k : Nat) (A0 : Option Addr) (c0 : Nat) (l0 : List (S41)) (a1_0 : Int) (a1_1 : Int) (r : Int) (w : World) (hr0 : Kd.C k41 w A0 l0.length l0) (hc0 : l0.length ≤ c0) (h : cmap_kind.f k l0 a1_0 a1_1 = some r) :
  Calls Try.prog 28 #[.slice A0 l0.length c0, .agg #[.int .i64 a1_0, .int .i64 a1_1]] w fun e w' => e = .returned (.int .i64 r) ∧ Below w.heap.size w w' := by
 have hu41 := Try.underlying41
 have HR0 := Aside0.mk hr0
 have HC0 := Aside0.mk hc0
 clear hr0 hc0
 have HB := Aside0.mk (Below.refl w.heap.size w)
 have H : (cmap_kind.l0 k l0 (l0.length : Int) 0 a1_0 a1_1) = some r := h
 clear h
 have H' := Aside0.mk H
 clear H
 go_enter Try.func28, Try.ntmps28
 go_wp2_with (first | ((with_reducible refine gate_dst (N := 3) rfl ?_); refine box_event ?hg (N := 3) ?hd (cs := #[.int .i64 a1_0, .int .i64 a1_1]) (t := 41) ?hr ?_; (case hd => rfl); (case hg => rfl); (case hr => exact hA); intro gb220 hg w3 hbox hb; have n0_ := Aside0.mk (below_step bA hb); have n1_ := Aside0.mk (hbox); have n2_ := Aside0.mk ((by rw [hg]; exact (below_size bA) : w.heap.size ≤ gb220)); have n3_ := Aside0.mk ((by rw [hg]; exact (below_size bA) : w.heap.size ≤ gb220)); clear HB; have HB := n0_; have BK220 := n1_; have GW220 := n2_; have GE220 := n3_; clear n0_ n1_ n2_ n3_; clear hb hbox hg))
 repeat (go_quiet (first | ((with_reducible refine gate_dst (N := 3) rfl ?_); refine box_event ?hg (N := 3) ?hd (cs := #[.int .i64 a1_0, .int .i64 a1_1]) (t := 41) ?hr ?_; (case hd => rfl); (case hg => rfl); (case hr => exact hA); intro gb220 hg w3 hbox hb; have n0_ := Aside0.mk (below_step bA hb); have n1_ := Aside0.mk (hbox); have n2_ := Aside0.mk ((by rw [hg]; exact (below_size bA) : w.heap.size ≤ gb220)); have n3_ := Aside0.mk ((by rw [hg]; exact (below_size bA) : w.heap.size ≤ gb220)); clear HB; have HB := n0_; have BK220 := n1_; have GW220 := n2_; have GE220 := n3_; clear n0_ n1_ n2_ n3_; clear hb hbox hg)); try go_wp2_with (first | ((with_reducible refine gate_dst (N := 3) rfl ?_); refine box_event ?hg (N := 3) ?hd (cs := #[.int .i64 a1_0, .int .i64 a1_1]) (t := 41) ?hr ?_; (case hd => rfl); (case hg => rfl); (case hr => exact hA); intro gb220 hg w3 hbox hb; have n0_ := Aside0.mk (below_step bA hb); have n1_ := Aside0.mk (hbox); have n2_ := Aside0.mk ((by rw [hg]; exact (below_size bA) : w.heap.size ≤ gb220)); have n3_ := Aside0.mk ((by rw [hg]; exact (below_size bA) : w.heap.size ≤ gb220)); clear HB; have HB := n0_; have BK220 := n1_; have GW220 := n2_; have GE220 := n3_; clear n0_ n1_ n2_ n3_; clear hb hbox hg)))
 go_loopg [8] k (fun kq v8 w' => ∃ (x8_1 : Int), v8 = .int .i64 x8_1 ∧ Aside0 (cmap_kind.l0 kq l0 (l0.length : Int) x8_1 a1_0 a1_1 = some r) ∧ Aside0 (kq ≤ k) ∧ Aside0 (w'.heap[gb220]? = some (.cells #[.int .i64 a1_0, .int .i64 a1_1] 41 (0, 0))) ∧ Aside0 (Below w.heap.size w w'))
 case atStart => exact ⟨(0), gA, H', ⟨Nat.le_refl _⟩, ⟨by (with_reducible repeat (first | refine blk_drewN ?_ _ | refine blk_drew ?_ | refine blk_alloc ?_ _)); exact BK220.out⟩, ⟨by repeat (first | (with_reducible first | exact HB.out | apply below_alloc | apply pw_below_drewN | apply below_drew1 | refine below_set ?_ GE220.out) | exact HB.out)⟩⟩
 case round =>
  clear H'
  try clear c2
  try clear p2
  obtain ⟨x8_1, rfl, HA, HK1, BK220, HB⟩ := hrel
  cases gk with
  | zero => exact absurd HA.out (by simp [cmap_kind.l0])
  | succ k1 =>
   have H := HA.out
   clear HA
   simp only [cmap_kind.l0] at H
   by_cases c4 : x8_1 < (l0.length : Int)
   ·
    rw [if_pos c4] at H
    have c4b0 : decide (x8_1 < (l0.length : Int)) = true := decide_eq_true c4
    clear c4
    by_cases c5 : 0 ≤ x8_1
    ·
     rw [if_pos c5] at H
     have c5b0 : decide (0 ≤ x8_1) = true := decide_eq_true c5
     clear c5
     by_cases c6 : x8_1 < (l0.length : Int)
     ·
      rw [if_pos c6] at H
      have c6b0 : decide (x8_1 < (l0.length : Int)) = true := decide_eq_true c6
      clear c6
      by_cases c7 : (a1_0 == ((rd_T41 l0 x8_1).f0) && (a1_1 == ((rd_T41 l0 x8_1).f1))) = true
      ·
       rw [if_pos c7] at H
       have c7b0 : (a1_0 == ((rd_T41 l0 x8_1).f0) && (a1_1 == ((rd_T41 l0 x8_1).f1))) = true := c7
       (try (have c7b1 : decide (a1_0 = ((rd_T41 l0 x8_1).f0) && (a1_1 == ((rd_T41 l0 x8_1).f1))) = true := by simpa using c7))
       (try (have c7b2 : (a1_0 == ((rd_T41 l0 x8_1).f0) && (a1_1 == ((rd_T41 l0 x8_1).f1))) = true := by simpa using c7))
       clear c7
       obtain rfl := Option.some.inj H
       have hcz8_0 : wr.cell? ⟨gb220, 0, none⟩ = some (.int .i64 a1_0) := (blk_cell BK220.out 0).trans rfl
       have hcz8_1 : wr.cell? ⟨gb220, 1, none⟩ = some (.int .i64 a1_1) := (blk_cell BK220.out 1).trans rfl
       have hfz8_0 := blk_frozen BK220.out 0
       have hfz8_1 := blk_frozen BK220.out 1
       have p221 : 0 ≤ (x8_1 : Int) := of_decide_eq_true sA
       have q221 : x8_1 < (l0.length : Int) := of_decide_eq_true sA
       obtain ⟨ad221, e221, hx221_0, hx221_1⟩ := at_T41 HR0.out x8_1 p221 q221
       cases e221
       replace hx221_0 := (HB.out.cell (World.block_lt_of_cell? w _ hx221_0)).trans hx221_0
       replace hx221_1 := (HB.out.cell (World.block_lt_of_cell? w _ hx221_1)).trans hx221_1
       replace p221 := eq_true p221
       replace q221 := eq_true q221
       go_wp2
       repeat (go_quiet (fail); try go_wp2)
       go_ret
       exact ⟨eA, by repeat (first | (with_reducible first | exact HB.out | apply below_alloc | apply pw_below_drewN | apply below_drew1 | refine below_set ?_ GE220.out) | exact HB.out)⟩
      ·
       rw [if_neg c7] at H
       have c7b0 : (a1_0 == ((rd_T41 l0 x8_1).f0) && (a1_1 == ((rd_T41 l0 x8_1).f1))) = false := by simpa using c7
       (try (have c7b1 : decide (a1_0 = ((rd_T41 l0 x8_1).f0) && (a1_1 == ((rd_T41 l0 x8_1).f1))) = false := by simpa using c7))
       (try (have c7b2 : (a1_0 == ((rd_T41 l0 x8_1).f0) && (a1_1 == ((rd_T41 l0 x8_1).f1))) = false := by simpa using c7))
       (try (have c7b3 : ¬ (a1_0 = ((rd_T41 l0 x8_1).f0) && (a1_1 == ((rd_T41 l0 x8_1).f1))) := by simpa using c7))
       clear c7
       have H' := Aside0.mk H
       clear H
       have hcz9_0 : wr.cell? ⟨gb220, 0, none⟩ = some (.int .i64 a1_0) := (blk_cell BK220.out 0).trans rfl
       have hcz9_1 : wr.cell? ⟨gb220, 1, none⟩ = some (.int .i64 a1_1) := (blk_cell BK220.out 1).trans rfl
       have hfz9_0 := blk_frozen BK220.out 0
       have hfz9_1 := blk_frozen BK220.out 1
       have p221 : 0 ≤ (x8_1 : Int) := of_decide_eq_true sA
       have q221 : x8_1 < (l0.length : Int) := of_decide_eq_true sA
       obtain ⟨ad221, e221, hx221_0, hx221_1⟩ := at_T41 HR0.out x8_1 p221 q221
       cases e221
       replace hx221_0 := (HB.out.cell (World.block_lt_of_cell? w _ hx221_0)).trans hx221_0
       replace hx221_1 := (HB.out.cell (World.block_lt_of_cell? w _ hx221_1)).trans hx221_1
       replace p221 := eq_true p221
       replace q221 := eq_true q221
       go_wp2
       repeat (go_quiet (fail); try go_wp2)
       go_roundg k1
       case measure => have := HK1.out; omega
       case rel => exact ⟨(wrap64 (x8_1 + 1)), gA, H', ⟨by have := HK1.out; omega⟩, ⟨by (with_reducible repeat (first | refine blk_drewN ?_ _ | refine blk_drew ?_ | refine blk_alloc ?_ _)); exact BK220.out⟩, ⟨by repeat (first | (with_reducible first | exact HB.out | apply below_alloc | apply pw_below_drewN | apply below_drew1 | refine below_set ?_ GE220.out) | exact HB.out)⟩⟩
     ·
      rw [if_neg c6] at H
      exact absurd H (by simp)
    ·
     rw [if_neg c5] at H
     exact absurd H (by simp)
   ·
    rw [if_neg c4] at H
    have c4b0 : decide (x8_1 < (l0.length : Int)) = false := decide_eq_false c4
    clear c4
    obtain rfl := Option.some.inj H
    go_wp2
    repeat (go_quiet (fail); try go_wp2)
    go_ret
    exact ⟨eA, by repeat (first | (with_reducible first | exact HB.out | apply below_alloc | apply pw_below_drewN | apply below_drew1 | refine below_set ?_ GE220.out) | exact HB.out)⟩
end Go.Proofs.Ytejdflndgnpkcaa.P
end
section
namespace Go.Proofs.Ytejdflndgnpkcaa.P
open Go.RowKit Go.Proofs.YtejdflndgnpkcaaW.PrintWords Go.Proofs.YtejdflndgnpkcaaW.PrintLast Go.Proofs.YtejdflndgnpkcaaW.PrintMore
attribute [local go_sem] max2_int min2_int max_two min_two max_three min_three max_four min_four
def cmap_kinds.f  : Option ((List (S41))) := some (([(⟨1, 0⟩ : S41), (⟨0, 0⟩ : S41), (⟨0, 1⟩ : S41), (⟨0, 2⟩ : S41), (⟨0, 3⟩ : S41), (⟨3, 1⟩ : S41), (⟨0, 4⟩ : S41), (⟨0, 6⟩ : S41), (⟨3, 10⟩ : S41)] : List (S41)))
set_option maxHeartbeats 8000000 in
set_option maxRecDepth 100000 in
theorem cmap_kinds.calls  (r : List (S41)) (w : World) (h : cmap_kinds.f  = some r) :
  Calls Try.prog 29 #[] w fun e w' => ∃ v0_ : Value, e = .returned (v0_) ∧ Kd.R k41 41 w' w.heap.size (fun _ => True) v0_ r ∧ Below w.heap.size w w' := by
 have hu41 := Try.underlying41
 have HB := Aside0.mk (Below.refl w.heap.size w)
 have H : (some (([(⟨1, 0⟩ : S41), (⟨0, 0⟩ : S41), (⟨0, 1⟩ : S41), (⟨0, 2⟩ : S41), (⟨0, 3⟩ : S41), (⟨3, 1⟩ : S41), (⟨0, 4⟩ : S41), (⟨0, 6⟩ : S41), (⟨3, 10⟩ : S41)] : List (S41)))) = some r := h
 clear h
 obtain ⟨y222, hy222⟩ : ∃ y_ : List (S41), y_ = (([(⟨1, 0⟩ : S41), (⟨0, 0⟩ : S41), (⟨0, 1⟩ : S41), (⟨0, 2⟩ : S41), (⟨0, 3⟩ : S41), (⟨3, 1⟩ : S41), (⟨0, 4⟩ : S41), (⟨0, 6⟩ : S41), (⟨3, 10⟩ : S41)] : List (S41))) := ⟨_, rfl⟩
 replace H : (some y222) = some r := by first | (rw [hy222]; with_reducible exact H) | (have H2_ := (Option.bind_some _ _).symm.trans H; rw [hy222]; with_reducible exact H2_) | (have H2_ := (Option.bind_some _ _).symm.trans H; with_reducible exact H2_) | with_reducible exact H | (rw [hy222]; exact H) | exact H
 have Ny222 := Aside0.mk hy222
 clear hy222
 obtain rfl := Option.some.inj H
 go_enter Try.func29, Try.ntmps29
 go_wp2_with (first | ((with_reducible refine gate_dst (N := 10) rfl ?_); refine Kd.R_lit k41 _ 41 ?hg (N := 10) ?hd (xs := ([(⟨1, 0⟩ : S41), (⟨0, 0⟩ : S41), (⟨0, 1⟩ : S41), (⟨0, 2⟩ : S41), (⟨0, 3⟩ : S41), (⟨3, 1⟩ : S41), (⟨0, 4⟩ : S41), (⟨0, 6⟩ : S41), (⟨3, 10⟩ : S41)] : List (S41))) (inner := [.int .i64 1, .int .i64 0, .int .i64 0, .int .i64 0, .int .i64 0, .int .i64 1, .int .i64 0, .int .i64 2, .int .i64 0, .int .i64 3, .int .i64 3, .int .i64 1, .int .i64 0, .int .i64 4, .int .i64 0, .int .i64 6, .int .i64 3, .int .i64 10]) (ok := fun _ => True) (okp := fun _ => True) ?hr ?hp (fun _ hk => hk) trivial (Below.refl _ _) (Nat.le_refl _) (by simp) ?_; (case hd => rfl); (case hg => rfl); (case hr => exact hA); (case hp => exact (Reps.c2 (show Kd.M k41 _ _ _ (⟨1, 0⟩ : S41) [.int .i64 1, .int .i64 0] from (k41_mkM _ _ _ (⟨1, 0⟩ : S41) )) (Reps.c2 (show Kd.M k41 _ _ _ (⟨0, 0⟩ : S41) [.int .i64 0, .int .i64 0] from (k41_mkM _ _ _ (⟨0, 0⟩ : S41) )) (Reps.c2 (show Kd.M k41 _ _ _ (⟨0, 1⟩ : S41) [.int .i64 0, .int .i64 1] from (k41_mkM _ _ _ (⟨0, 1⟩ : S41) )) (Reps.c2 (show Kd.M k41 _ _ _ (⟨0, 2⟩ : S41) [.int .i64 0, .int .i64 2] from (k41_mkM _ _ _ (⟨0, 2⟩ : S41) )) (Reps.c2 (show Kd.M k41 _ _ _ (⟨0, 3⟩ : S41) [.int .i64 0, .int .i64 3] from (k41_mkM _ _ _ (⟨0, 3⟩ : S41) )) (Reps.c2 (show Kd.M k41 _ _ _ (⟨3, 1⟩ : S41) [.int .i64 3, .int .i64 1] from (k41_mkM _ _ _ (⟨3, 1⟩ : S41) )) (Reps.c2 (show Kd.M k41 _ _ _ (⟨0, 4⟩ : S41) [.int .i64 0, .int .i64 4] from (k41_mkM _ _ _ (⟨0, 4⟩ : S41) )) (Reps.c2 (show Kd.M k41 _ _ _ (⟨0, 6⟩ : S41) [.int .i64 0, .int .i64 6] from (k41_mkM _ _ _ (⟨0, 6⟩ : S41) )) (Reps.c2 (show Kd.M k41 _ _ _ (⟨3, 10⟩ : S41) [.int .i64 3, .int .i64 10] from (k41_mkM _ _ _ (⟨3, 10⟩ : S41) )) (Reps.none _ _))))))))))); intro v223 w1 ho2 hb hg_ hnew_; clear hg_ hnew_; (first | rw [← Ny222.out] at ho2 | (simp only [Int.reduceToNat] at ho2; rw [← Ny222.out] at ho2)); have HO224 := Aside0.mk (Kd.R_lower ho2 (below_size bA)); replace HB := Aside0.mk (below_step bA hb); clear hb ho2))
 go_ret
 exact ⟨_, eA, by (with_reducible repeat (first | apply Kd.R_alloc | apply Kd.R_drewN | apply Kd.R_drew)); exact HO224.out, by repeat (first | (with_reducible first | exact HB.out | apply below_alloc | apply pw_below_drewN | apply below_drew1) | exact HB.out)⟩
end Go.Proofs.Ytejdflndgnpkcaa.P
end
section
namespace Go.Proofs.Ytejdflndgnpkcaa.P
open Go.RowKit Go.Proofs.YtejdflndgnpkcaaW.PrintWords Go.Proofs.YtejdflndgnpkcaaW.PrintLast Go.Proofs.YtejdflndgnpkcaaW.PrintMore
attribute [local go_sem] max2_int min2_int max_two min_two max_three min_three max_four min_four
def cmap_Best.f (k : Nat) (a0 : Int) (a1 : Int) : Option (Int) := (cmap_kinds.f).bind fun t225 => ((cmap_kind.f k t225 a0 a1).bind fun t228 => (some (wrap64 (t228 + 1))))
set_option maxHeartbeats 8000000 in
set_option maxRecDepth 100000 in
theorem cmap_Best.calls (k : Nat) (a0 : Int) (a1 : Int) (r : Int) (w : World) (h : cmap_Best.f k a0 a1 = some r) :
  Calls Try.prog 12 #[.int .i64 a0, .int .i64 a1] w fun e w' => e = .returned (.int .i64 r) ∧ Below w.heap.size w w' := by
 have hu41 := Try.underlying41
 have HB := Aside0.mk (Below.refl w.heap.size w)
 have H : ((cmap_kinds.f).bind fun t225 => ((cmap_kind.f k t225 a0 a1).bind fun t228 => (some (wrap64 (t228 + 1))))) = some r := h
 clear h
 replace H := Option.bind_eq_some_iff.mp H
 obtain ⟨t225, A30, H⟩ := H
 try dsimp only at H
 have A3 := Aside0.mk A30
 clear A30
 replace H := Option.bind_eq_some_iff.mp H
 obtain ⟨t228, A40, H⟩ := H
 try dsimp only at H
 have A4 := Aside0.mk A40
 clear A40
 obtain rfl := Option.some.inj H
 go_enter Try.func12, Try.ntmps12
 go_wp2_with (first | ((with_reducible refine gate_callee (f := 29) rfl ?_); refine gL_ 5 Try.func29 #[] ?_; (with_reducible refine (cmap_kinds.calls  t225 _ A3.out).mono ?_); rintro e w5 ⟨v226, rfl, ho0, hb⟩; refine ⟨_, rfl, ?_⟩; have HO227 := Aside0.mk (Kd.R_lower ho0 (below_size bA)); replace HB := Aside0.mk (below_step bA hb); (try clear hb ho0); obtain ⟨Ao6, co6, eo6⟩ := Kd.R_slice HO227.out; subst eo6) | ((with_reducible refine gate_callee (f := 28) rfl ?_); refine gL_ 9 Try.func28 #[.slice Ao6 t225.length co6, .agg #[.int .i64 a0, .int .i64 a1]] ?_; (with_reducible refine (cmap_kind.calls k _ _ t225 a0 a1 t228 _ ?side1 ?side2 A4.out).mono ?_); (case side1 => exact cA (Kd.R_reads' HO227.out).2.2); (case side2 => exact (Kd.R_reads' HO227.out).2.1); rintro e w7 ⟨rfl, hb⟩; refine ⟨_, rfl, ?_⟩; replace HO227 := Aside0.mk (Kd.R_below (rA HO227.out) hb); replace HB := Aside0.mk (below_step bA hb); (try clear hb)))
 go_ret
 exact ⟨eA, bA⟩
end Go.Proofs.Ytejdflndgnpkcaa.P
end
section
namespace Go.Proofs.Ytejdflndgnpkcaa.P
open Go.RowKit Go.Proofs.YtejdflndgnpkcaaW.PrintWords Go.Proofs.YtejdflndgnpkcaaW.PrintLast Go.Proofs.YtejdflndgnpkcaaW.PrintMore
attribute [local go_sem] max2_int min2_int max_two min_two max_three min_three max_four min_four
def vinculumref03_Power.l0 : Nat → Int → Int → Int → Option (Int)
 | 0, _, _, _ => none
 | k + 1, x0, x3, x4 => if x4 < x0 then (vinculumref03_Power.l0 k x0 (wrap64 (256 * x3)) (wrap64 (x4 + 1))) else (some x3)
def vinculumref03_Power.f (k : Nat) (a0 : Int) : Option (Int) := vinculumref03_Power.l0 k a0 1 0
theorem vinculumref03_Power.mono_l : ∀ k, (∀ y0 y1 y2, LeO (vinculumref03_Power.l0 k y0 y1 y2) (vinculumref03_Power.l0 (k + 1) y0 y1 y2))
 | 0 => fun _ _ _ r h => by simp [vinculumref03_Power.l0] at h
 | k + 1 => by
  have ih0 := vinculumref03_Power.mono_l k
  ·
   intro y0 y1 y2
   unfold vinculumref03_Power.l0
   repeat' first
   | (with_reducible exact ih0 _ _ _)
   | (with_reducible exact LeO.refl _)
   | (with_reducible exact LeO.none _)
   | (with_reducible refine LeO.ite ?_ ?_)
   | (with_reducible refine LeO.bind ?_ (fun _ => ?_))
   | exact ih0 _ _ _
   | exact LeO.none _
   | refine LeO.ite ?_ ?_
   | refine LeO.bind ?_ (fun _ => ?_)
theorem vinculumref03_Power.mono : ∀ a0 k, LeO (vinculumref03_Power.f k a0) (vinculumref03_Power.f (k + 1) a0) := by
 intro a0 k
 have ih0 := vinculumref03_Power.mono_l k
 unfold vinculumref03_Power.f
 repeat' first
   | (with_reducible exact ih0 _ _ _)
   | (with_reducible exact LeO.refl _)
   | (with_reducible exact LeO.none _)
   | (with_reducible refine LeO.ite ?_ ?_)
   | (with_reducible refine LeO.bind ?_ (fun _ => ?_))
   | exact ih0 _ _ _
   | exact LeO.none _
   | refine LeO.ite ?_ ?_
   | refine LeO.bind ?_ (fun _ => ?_)
set_option maxHeartbeats 8000000 in
set_option maxRecDepth 100000 in
theorem vinculumref03_Power.calls (k : Nat) (a0 : Int) (r : Int) (w : World) (h : vinculumref03_Power.f k a0 = some r) :
  Calls Try.prog 27 #[.int .i64 a0] w fun e w' => e = .returned (.int .i64 r) ∧ Drawn0 w w' := by
 have H : (vinculumref03_Power.l0 k a0 1 0) = some r := h
 clear h
 have H' := Aside0.mk H
 clear H
 go_enter Try.func27, Try.ntmps27
 go_wp2
 go_loopg [3, 4] k (fun kq v3 v4 w' => ∃ (x3_1 : Int) (x4_1 : Int), v3 = .int .i64 x3_1 ∧ v4 = .int .i64 x4_1 ∧ Aside0 (vinculumref03_Power.l0 kq a0 x3_1 x4_1 = some r) ∧ Aside0 (kq ≤ k) ∧ Drawn0 w w')
 case atStart => exact ⟨(1), (0), gA, gA, H', ⟨Nat.le_refl _⟩, by repeat (first | exact Drawn0.refl _ | apply Drawn0.step)⟩
 case round =>
  clear H'
  obtain ⟨x3_1, x4_1, rfl, rfl, HA, HK1, ⟨m1, rfl⟩⟩ := hrel
  cases gk with
  | zero => exact absurd HA.out (by simp [vinculumref03_Power.l0])
  | succ k1 =>
   have H := HA.out
   clear HA
   simp only [vinculumref03_Power.l0] at H
   by_cases c2 : x4_1 < a0
   ·
    rw [if_pos c2] at H
    have c2b0 : decide (x4_1 < a0) = true := decide_eq_true c2
    clear c2
    have H' := Aside0.mk H
    clear H
    go_wp2
    go_roundg k1
    case measure => have := HK1.out; omega
    case rel => exact ⟨(wrap64 (256 * x3_1)), (wrap64 (x4_1 + 1)), gA, gA, H', ⟨by have := HK1.out; omega⟩, by repeat (first | exact Drawn0.refl _ | apply Drawn0.step)⟩
   ·
    rw [if_neg c2] at H
    have c2b0 : decide (x4_1 < a0) = false := decide_eq_false c2
    clear c2
    obtain rfl := Option.some.inj H
    go_wp2
    go_ret
    exact ⟨by first | rfl | (simp; done) | (simp [*]; done), by repeat (first | exact Drawn0.refl _ | apply Drawn0.step)⟩
mutual
def vinculumref03_Bytes.j0 : Nat → Int → Int → Option (ByteArray)
 | 0, _, _ => none
 | k + 1, x0, x1 => vinculumref03_Bytes.l0 k x0 x1 (⟨#[]⟩ : ByteArray) 0
def vinculumref03_Bytes.l0 : Nat → Int → Int → ByteArray → Int → Option (ByteArray)
 | 0, _, _, _, _ => none
 | k + 1, x0, x1, x5, x6 => if x6 < x1 then ((some (([(Int.tmod x0 256) % 256] : List Int) : List Int)).bind fun y253 => (if (strOfNums y253).size + x5.size ≤ 9223372036854775807 then (vinculumref03_Bytes.l0 k (wrap64 (Int.tdiv x0 256)) x1 ((strOfNums y253) ++ x5) (wrap64 (x6 + 1))) else (none))) else (some x5)
end
def vinculumref03_Bytes.f (k : Nat) (a0 : Int) (a1 : Int) : Option (ByteArray) := if a0 < 0 then ((vinculumref03_Power.f k a1).bind fun t252 => (vinculumref03_Bytes.j0 k (wrap64 (a0 + t252)) a1)) else (vinculumref03_Bytes.j0 k a0 a1)
set_option maxHeartbeats 8000000 in
set_option maxRecDepth 100000 in
theorem vinculumref03_Bytes.calls (k : Nat) (a0 : Int) (a1 : Int) (r : ByteArray) (w : World) (h : vinculumref03_Bytes.f k a0 a1 = some r) :
  Calls Try.prog 11 #[.int .i64 a0, .int .i64 a1] w fun e w' => e = .returned (.string r) ∧ Below w.heap.size w w' := by
 have HB := Aside0.mk (Below.refl w.heap.size w)
 have H : (if a0 < 0 then ((vinculumref03_Power.f k a1).bind fun t252 => (vinculumref03_Bytes.j0 k (wrap64 (a0 + t252)) a1)) else (vinculumref03_Bytes.j0 k a0 a1)) = some r := h
 clear h
 have HC3 := Aside0.mk H
 clear H
 go_enter Try.func11, Try.ntmps11
 go_upto_if 8 with (fail)
 go_cut [0] (fun v0 wc => ∃ (kq : Nat) (x0_2 : Int), v0 = .int .i64 x0_2 ∧ Aside0 (vinculumref03_Bytes.j0 kq x0_2 a1 = some r) ∧ Aside0 (kq ≤ k) ∧ Aside0 (Below w.heap.size w wc))
 case first =>
  have H := HC3.out
  clear HC3
  by_cases c4 : a0 < 0
  ·
   rw [if_pos c4] at H
   have c4b0 : decide (a0 < 0) = true := decide_eq_true c4
   clear c4
   (first | rw [c4b0] | (simp only [i64_w, i32_w]; rw [c4b0]) | skip)
   replace H := Option.bind_eq_some_iff.mp H
   obtain ⟨t252, A50, H⟩ := H
   try dsimp only at H
   have A5 := Aside0.mk A50
   clear A50
   have H' := Aside0.mk H
   clear H
   go_wp2_with (first | ((with_reducible refine gate_callee (f := 27) rfl ?_); refine gL_ 11 Try.func27 #[.int .i64 a1] ?_; (with_reducible refine (vinculumref03_Power.calls k a1 t252 _ A5.out).mono ?_); rintro e w' ⟨rfl, ⟨nd, rfl⟩⟩; refine ⟨_, rfl, ?_⟩))
   go_meet
   case rel => exact ⟨_, (wrap64 (a0 + t252)), gA, H', ⟨by first | omega | exact Nat.le_refl _⟩, ⟨bA⟩⟩
  ·
   rw [if_neg c4] at H
   have c4b0 : decide (a0 < 0) = false := decide_eq_false c4
   clear c4
   (first | rw [c4b0] | (simp only [i64_w, i32_w]; rw [c4b0]) | skip)
   have H' := Aside0.mk H
   clear H
   go_wp2
   go_meet
   case rel => exact ⟨_, (a0), gA, H', ⟨by first | omega | exact Nat.le_refl _⟩, ⟨bA⟩⟩
 case rest =>
  clear HC3
  try clear c1
  try clear c2
  try clear p2
  try clear c4
  try clear c4b0
  obtain ⟨kq, x0_2, rfl, HA, HJ2, HB⟩ := hcut
  cases kq with
  | zero => exact absurd HA.out (by simp [vinculumref03_Bytes.j0])
  | succ kj2 =>
   have H := HA.out
   clear HA
   simp only [vinculumref03_Bytes.j0] at H
   have H' := Aside0.mk H
   clear H
   go_wp2
   go_loopg [0, 5, 6] kj2 (fun kq v0 v5 v6 w' => ∃ (x0_2 : Int) (x5_2 : ByteArray) (x6_2 : Int), v0 = .int .i64 x0_2 ∧ v5 = .string x5_2 ∧ v6 = .int .i64 x6_2 ∧ Aside0 (vinculumref03_Bytes.l0 kq x0_2 a1 x5_2 x6_2 = some r) ∧ Aside0 (kq ≤ kj2) ∧ Aside0 (Below w.heap.size w w'))
   case atStart => exact ⟨(x0_2), ((⟨#[]⟩ : ByteArray)), (0), gA, gA, gA, H', ⟨Nat.le_refl _⟩, ⟨bA⟩⟩
   case round =>
    clear H'
    try clear c1
    try clear c2
    try clear p2
    try clear c4
    try clear c4b0
    try clear p2
    obtain ⟨x0_2, x5_2, x6_2, rfl, rfl, rfl, HA, HK2, HB⟩ := hrel
    cases gk with
    | zero => exact absurd HA.out (by simp [vinculumref03_Bytes.l0])
    | succ k2 =>
     have H := HA.out
     clear HA
     simp only [vinculumref03_Bytes.l0] at H
     by_cases c6 : x6_2 < a1
     ·
      rw [if_pos c6] at H
      have c6b0 : decide (x6_2 < a1) = true := decide_eq_true c6
      clear c6
      obtain ⟨y253, hy253⟩ : ∃ y_ : List Int, y_ = (([(Int.tmod x0_2 256) % 256] : List Int)) := ⟨_, rfl⟩
      replace H : (if (strOfNums y253).size + x5_2.size ≤ 9223372036854775807 then (vinculumref03_Bytes.l0 k2 (wrap64 (Int.tdiv x0_2 256)) a1 ((strOfNums y253) ++ x5_2) (wrap64 (x6_2 + 1))) else (none)) = some r := by first | (rw [hy253]; with_reducible exact H) | (have H2_ := (Option.bind_some _ _).symm.trans H; rw [hy253]; with_reducible exact H2_) | (have H2_ := (Option.bind_some _ _).symm.trans H; with_reducible exact H2_) | with_reducible exact H | (rw [hy253]; exact H) | exact H
      have Ny253 := Aside0.mk hy253
      clear hy253
      by_cases c7 : (strOfNums y253).size + x5_2.size ≤ 9223372036854775807
      ·
       rw [if_pos c7] at H
       have c7b0 := eq_true c7
       have c7b1 : decide ((strOfNums y253).size + x5_2.size ≤ 9223372036854775807) = true := decide_eq_true c7
       try have c7b2 : (9223372036854775807 < (strOfNums y253).size + x5_2.size) = False := eq_false (Nat.not_lt.2 c7)
       have H' := Aside0.mk H
       clear H
       go_wp2_with (first | ((with_reducible refine gate_dst (N := 21) rfl ?_); refine Kd.R_lit (Kd.int .u8) _ 5 ?hg (N := 21) ?hd (xs := ([(Int.tmod x0_2 256) % 256] : List Int)) (inner := [.int .u8 ((Int.tmod x0_2 256) % 256)]) (ok := fun _ => True) (okp := fun _ => True) ?hr ?hp (fun _ hk => hk) trivial (Below.refl _ _) (Nat.le_refl _) (by simp) ?_; (case hd => rfl); (case hg => rfl); (case hr => exact hA); (case hp => exact (Reps.one (show Kd.M (Kd.int .u8) _ _ _ ((Int.tmod x0_2 256) % 256) [.int .u8 ((Int.tmod x0_2 256) % 256)] from rfl) (Reps.none _ _))); intro v254 w8 ho9 hb hg_ hnew_; clear hg_ hnew_; (first | rw [← Ny253.out] at ho9 | (simp only [Int.reduceToNat] at ho9; rw [← Ny253.out] at ho9)); have HO255 := Aside0.mk (Kd.R_lower ho9 (below_size bA)); replace HB := Aside0.mk (below_step bA hb); clear hb ho9; have hcv10 := own_string (P := Try.prog) Try.underlying64 Try.underlying5 Try.underlying9 (Kd.own_of_R HO255.out)))
       go_roundg k2
       case measure => have := HJ2.out; have := HK2.out; omega
       case rel => exact ⟨(wrap64 (Int.tdiv x0_2 256)), ((strOfNums y253) ++ x5_2), (wrap64 (x6_2 + 1)), gA, gA, gA, H', ⟨by have := HJ2.out; have := HK2.out; omega⟩, ⟨bA⟩⟩
      ·
       rw [if_neg c7] at H
       exact absurd H (by simp)
     ·
      rw [if_neg c6] at H
      have c6b0 : decide (x6_2 < a1) = false := decide_eq_false c6
      clear c6
      obtain rfl := Option.some.inj H
      go_wp2
      go_ret
      exact ⟨eA, bA⟩
end Go.Proofs.Ytejdflndgnpkcaa.P
end
