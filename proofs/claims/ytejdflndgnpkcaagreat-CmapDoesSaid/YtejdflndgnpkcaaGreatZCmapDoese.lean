/- Words, contracts and plain facts of the proof. Each says its own condition. -/
import Derived.Test.YtejdflndgnpkcaaGreatProg
import Derived.Below
import Derived.Deep.Draws
import Derived.Deep.AppendLies
import Derived.Maps.AppendAt
import Derived.OwnWalk
import Derived.Laws.BytesArg
import Derived.Laws.MakeOwn
import Derived.Laws.OwnMore
import Derived.Deep.OwnRows
import Derived.Tactics
import Derived.Lib.ConvBytes
import Derived.Laws.Slices
import Derived.WalkKit
import Derived.KernelRfl
import Derived.RowKit3
import Derived.Deep.LoopGhost
import Derived.Deep.QuietTactic
import Derived.BigQuiet
import Derived.WideLaws
import Derived.Deep.DeepCutAuto
import Derived.Deep.CutBlock
import Derived.Deep.RegionHeld3
import Derived.Laws.Rows
import Derived.Lib.AppendStr
import Derived.ArgAppend
import Derived.Laws.IdiomCopy
import Derived.OrdersHeld
import Derived.Laws.BitsLemmas
import Derived.RowKit
import Derived.Test.YtejdflndgnpkcaaGreatZCmapDoesa
import Derived.Test.YtejdflndgnpkcaaGreatZCmapDoesb
import Derived.Test.YtejdflndgnpkcaaGreatZCmapDoesc
import Derived.Test.YtejdflndgnpkcaaGreatZCmapDoesd
set_option linter.unusedVariables false
set_option maxRecDepth 100000
set_option linter.unusedSimpArgs false
set_option maxHeartbeats 16000000
section
namespace Go.Proofs.YtejdflndgnpkcaaGreat.P
open Go.RowKit PW PL PM
attribute [local go_sem] max2_int min2_int max_two min_two max_three min_three max_four min_four
def errW : Option Int → Value
  | none => .nilIface
  | some c => .iface 0 (.int .i64 c)
theorem errW_none : errW none = .nilIface := rfl
theorem errW_some (c : Int) : errW (some c) = .iface 0 (.int .i64 c) := rfl
theorem info61 : (Tryz.prog.info? 61).map (fun i => (i.zero, i.size, i.bytes)) = some (some (.agg #[(.int .i64 0), (.int .i64 0), (.int .i64 0), (.int .i64 0)]), 4, 32) := by kernel_rfl
structure S61 where
  f0 : Int
  f1 : Int
  f2 : Int
  f3 : Int
def z61 : S61 := ⟨(0 : Int), (0 : Int), (0 : Int), (0 : Int)⟩
def k61 : Kd S61 := Kd.iso (Kd.pair (Kd.int .i64) (Kd.pair (Kd.int .i64) (Kd.pair (Kd.int .i64) (Kd.int .i64)))) (fun x : S61 => (x.f0, x.f1, x.f2, x.f3))
theorem k61_open {w : World} {x : S61} {cs : List Value} (h : k61.K w x cs) : cs = [.int .i64 x.f0, .int .i64 x.f1, .int .i64 x.f2, .int .i64 x.f3] := by
  obtain ⟨_, _, rfl, rfl, ⟨_, _, rfl, rfl, ⟨_, _, rfl, rfl, rfl⟩⟩⟩ := h
  exact rfl
theorem k61_openM {w : World} {base : Nat} {ok : Nat → Prop} {x : S61} {cs : List Value} (h : k61.M w base ok x cs) : cs = [.int .i64 x.f0, .int .i64 x.f1, .int .i64 x.f2, .int .i64 x.f3] := by
  obtain ⟨_, _, rfl, rfl, ⟨_, _, rfl, rfl, ⟨_, _, rfl, rfl, rfl⟩⟩⟩ := h
  exact rfl
theorem k61_mk (w : World) (x : S61)  : k61.K w x [.int .i64 x.f0, .int .i64 x.f1, .int .i64 x.f2, .int .i64 x.f3] := ⟨[.int .i64 x.f0], [.int .i64 x.f1, .int .i64 x.f2, .int .i64 x.f3], rfl, rfl, ⟨[.int .i64 x.f1], [.int .i64 x.f2, .int .i64 x.f3], rfl, rfl, ⟨[.int .i64 x.f2], [.int .i64 x.f3], rfl, rfl, rfl⟩⟩⟩
theorem k61_mkM (w : World) (base : Nat) (ok : Nat → Prop) (x : S61)  : k61.M w base ok x [.int .i64 x.f0, .int .i64 x.f1, .int .i64 x.f2, .int .i64 x.f3] := ⟨[.int .i64 x.f0], [.int .i64 x.f1, .int .i64 x.f2, .int .i64 x.f3], rfl, rfl, ⟨[.int .i64 x.f1], [.int .i64 x.f2, .int .i64 x.f3], rfl, rfl, ⟨[.int .i64 x.f2], [.int .i64 x.f3], rfl, rfl, rfl⟩⟩⟩
def rd_T61 (xs : List S61) (i : Int) : S61 := xs.getD i.toNat z61
theorem at_T61 {w : World} {A : Option Addr} {n : Nat} {xs : List S61} (h : Kd.C k61 w A n xs) (i : Int) (h0 : 0 ≤ i) (h1 : i < n) : ∃ ad , A = some ad ∧ w.cell? (ad.add (i.toNat * 4)) = some (.int .i64 (rd_T61 xs i).f0) ∧ w.cell? ⟨(ad.add (i.toNat * 4)).block, (ad.add (i.toNat * 4)).off + 1, none⟩ = some (.int .i64 (rd_T61 xs i).f1) ∧ w.cell? ⟨(ad.add (i.toNat * 4)).block, (ad.add (i.toNat * 4)).off + 2, none⟩ = some (.int .i64 (rd_T61 xs i).f2) ∧ w.cell? ⟨(ad.add (i.toNat * 4)).block, (ad.add (i.toNat * 4)).off + 3, none⟩ = some (.int .i64 (rd_T61 xs i).f3) := by
  obtain ⟨ad, c, e, _, hK, hc0⟩ := Kd.C_get h z61 i h0 h1
  have hc : ∀ j u, c[j]? = some u → w.cell? (ad.add (i.toNat * 4 + j)) = some u := hc0
  obtain rfl := k61_open hK
  exact ⟨ad, e, hc 0 _ rfl, by rw [← add_field _ _ 1 (by omega)]; exact hc 1 _ rfl, by rw [← add_field _ _ 2 (by omega)]; exact hc 2 _ rfl, by rw [← add_field _ _ 3 (by omega)]; exact hc 3 _ rfl⟩
def rd_L3 (xs : List (List Int)) (i : Int) : (List Int) := xs.getD i.toNat ([] : List Int)
structure S47 where
  f0 : Int
  f1 : Int
def z47 : S47 := ⟨(0 : Int), (0 : Int)⟩
def k47 : Kd S47 := Kd.iso (Kd.pair (Kd.int .i64) (Kd.int .i64)) (fun x : S47 => (x.f0, x.f1))
theorem k47_open {w : World} {x : S47} {cs : List Value} (h : k47.K w x cs) : cs = [.int .i64 x.f0, .int .i64 x.f1] := by
  obtain ⟨_, _, rfl, rfl, rfl⟩ := h
  exact rfl
theorem k47_mkM (w : World) (base : Nat) (ok : Nat → Prop) (x : S47)  : k47.M w base ok x [.int .i64 x.f0, .int .i64 x.f1] := ⟨[.int .i64 x.f0], [.int .i64 x.f1], rfl, rfl, rfl⟩
def rd_T47 (xs : List S47) (i : Int) : S47 := xs.getD i.toNat z47
theorem at_T47 {w : World} {A : Option Addr} {n : Nat} {xs : List S47} (h : Kd.C k47 w A n xs) (i : Int) (h0 : 0 ≤ i) (h1 : i < n) : ∃ ad , A = some ad ∧ w.cell? (ad.add (i.toNat * 2)) = some (.int .i64 (rd_T47 xs i).f0) ∧ w.cell? ⟨(ad.add (i.toNat * 2)).block, (ad.add (i.toNat * 2)).off + 1, none⟩ = some (.int .i64 (rd_T47 xs i).f1) := by
  obtain ⟨ad, c, e, _, hK, hc0⟩ := Kd.C_get h z47 i h0 h1
  have hc : ∀ j u, c[j]? = some u → w.cell? (ad.add (i.toNat * 2 + j)) = some u := hc0
  obtain rfl := k47_open hK
  exact ⟨ad, e, hc 0 _ rfl, by rw [← add_field _ _ 1 (by omega)]; exact hc 1 _ rfl⟩
end Go.Proofs.YtejdflndgnpkcaaGreat.P
end
section
namespace Go.Proofs.YtejdflndgnpkcaaGreat.PL
section
open Go.RowKit PW PM
variable {P : Program} {ops : Array Oper} {Q : Exit → Act → World → Prop} {md : Region.Mode} {S : World → Prop} {ds : List Nat} {T : Bool × List (List Nat × List Nat)}
theorem pS_ (i n : Nat) {oi : Oper} {v : Value} {fuel : Nat} {l l' : Array Bool} {a a' : Act} {w : World} (h : wpAnyLast P md ops Q S ds fuel l' a' w) (hi : ops[i]? = some oi := by rfl) (hN : oi.dst = some n := by rfl)
    (hl : l.setIfInBounds i true = l' := by (simp only [List.setIfInBounds_toArray, List.set_cons_zero, List.set_cons_succ]; rfl)) (hc : anyB md ops l l' i = true := by kernel_rfl)
    (hQ : ∀ c a w, Q (.panic c) (a.put oi.dst v) w → Q (.panic c) a w := by exact fun _ _ _ h => h) (hy : Yields P ops oi v a := by (refine Or.inl ⟨by rfl, ?_⟩; intro w'; go_simp; with_reducible rfl)) (ha : a.put (some n) v = a' := by (simp only [Act.put, List.setIfInBounds_toArray, List.set_cons_zero, List.set_cons_succ, i64_w, i32_w]; rfl)) : wpAnyLast P md ops Q S ds (fuel + 1) l a w := by
  subst hl
  exact pure_ (i := i) (N := some n) _ hi hN hc hQ hy ha h
theorem pT_ (hT : rtab md ops = T) (i n : Nat) {oi : Oper} {v : Value} {fuel : Nat} {l l' : Array Bool} {a a' : Act} {w : World} (h : wpAnyLast P md ops Q S ds fuel l' a' w) (hi : ops[i]? = some oi := by rfl) (hN : oi.dst = some n := by rfl)
    (hl : l.setIfInBounds i true = l' := by (simp only [List.setIfInBounds_toArray, List.set_cons_zero, List.set_cons_succ]; rfl)) (hc : anyT T l.toList l'.toList i = true := by kernel_rfl)
    (hQ : ∀ c a w, Q (.panic c) (a.put oi.dst v) w → Q (.panic c) a w := by exact fun _ _ _ h => h) (hy : Yields P ops oi v a := by (refine Or.inl ⟨by rfl, ?_⟩; intro w'; go_simp; with_reducible rfl)) (ha : a.put (some n) v = a' := by (simp only [Act.put, List.setIfInBounds_toArray, List.set_cons_zero, List.set_cons_succ, i64_w, i32_w]; rfl)) : wpAnyLast P md ops Q S ds (fuel + 1) l a w := by
  subst hl
  exact pure_ (i := i) (N := some n) _ hi hN (any_of hT hc) hQ hy ha h
theorem tS_ (i n : Nat) {oi : Oper} {v : Value} {fuel : Nat} {l l' : Array Bool} {a a' : Act} {w : World} (hS : S w) (h : wpAnyLast P md ops Q S ds fuel l' a' w) (hi : ops[i]? = some oi := by rfl) (hN : oi.dst = some n := by rfl)
    (hl : l.setIfInBounds i true = l' := by (simp only [List.setIfInBounds_toArray, List.set_cons_zero, List.set_cons_succ]; rfl)) (hc : takeB md ops ds l l' i = true := by kernel_rfl)
    (hQ : ∀ c a w, Q (.panic c) (a.put oi.dst v) w → Q (.panic c) a w := by exact fun _ _ _ h => h) (hy : YieldsIf P ops S oi v a := by (refine Or.inl ⟨by rfl, ?_⟩; intro w' s0; go_simp; with_reducible rfl)) (ha : a.put (some n) v = a' := by (simp only [Act.put, List.setIfInBounds_toArray, List.set_cons_zero, List.set_cons_succ, i64_w, i32_w]; rfl)) : wpAnyLast P md ops Q S ds (fuel + 1) l a w := by
  subst hl
  exact take_ (i := i) (N := some n) _ hi hN hc hQ hy hS ha h
theorem tT_ (hT : rtab md ops = T) (i n : Nat) {oi : Oper} {v : Value} {fuel : Nat} {l l' : Array Bool} {a a' : Act} {w : World} (hS : S w) (h : wpAnyLast P md ops Q S ds fuel l' a' w) (hi : ops[i]? = some oi := by rfl) (hN : oi.dst = some n := by rfl)
    (hl : l.setIfInBounds i true = l' := by (simp only [List.setIfInBounds_toArray, List.set_cons_zero, List.set_cons_succ]; rfl)) (hc : takeT T ds l.toList l'.toList i = true := by kernel_rfl)
    (hQ : ∀ c a w, Q (.panic c) (a.put oi.dst v) w → Q (.panic c) a w := by exact fun _ _ _ h => h) (hy : YieldsIf P ops S oi v a := by (refine Or.inl ⟨by rfl, ?_⟩; intro w' s0; go_simp; with_reducible rfl)) (ha : a.put (some n) v = a' := by (simp only [Act.put, List.setIfInBounds_toArray, List.set_cons_zero, List.set_cons_succ, i64_w, i32_w]; rfl)) : wpAnyLast P md ops Q S ds (fuel + 1) l a w := by
  subst hl
  exact take_ (i := i) (N := some n) _ hi hN (take_of hT hc) hQ hy hS ha h
theorem tW_ {B : List Nat} (hT : rtab md ops = T) (hB : waitsOk T.2 B = true) (i n : Nat) {oi : Oper} {v : Value} {fuel : Nat} {l l' : Array Bool} {a a' : Act} {w : World} (hS : S w) (h : wpAnyLast P md ops Q S ds fuel l' a' w) (hi : ops[i]? = some oi := by rfl) (hN : oi.dst = some n := by rfl)
    (hl : l.setIfInBounds i true = l' := by (simp only [List.setIfInBounds_toArray, List.set_cons_zero, List.set_cons_succ]; rfl)) (hc : takeW T B ds l.toList l'.toList i = true := by kernel_rfl)
    (hQ : ∀ c a w, Q (.panic c) (a.put oi.dst v) w → Q (.panic c) a w := by exact fun _ _ _ h => h) (hy : YieldsIf P ops S oi v a := by (refine Or.inl ⟨by rfl, ?_⟩; intro w' s0; go_simp; with_reducible rfl)) (ha : a.put (some n) v = a' := by (simp only [Act.put, List.setIfInBounds_toArray, List.set_cons_zero, List.set_cons_succ, i64_w, i32_w]; rfl)) : wpAnyLast P md ops Q S ds (fuel + 1) l a w := by
  subst hl
  exact take_ (i := i) (N := some n) _ hi hN (take_ofW hT hB hc) hQ hy hS ha h
theorem nS_ {fuel : Nat} {l : Array Bool} {a a' : Act} {w : World} (h : wpAnyLast P md ops Q S ds fuel l a' w) (ha : a = a' := by (simp only [Act.put, List.setIfInBounds_toArray, List.set_cons_zero, List.set_cons_succ, i64_w, i32_w]; rfl)) : wpAnyLast P md ops Q S ds fuel l a w := norm_ ha h
theorem dS_ {l : Array Bool} {a : Act} {w : World} {n : Nat} (h : Q .normal a w) (hr : (Region.ready md ops l == []) = true := by kernel_rfl) : wpAnyLast P md ops Q S ds n l a w := done_ hr h
theorem vS_ {oi : Oper} {N : Option Tmp} {a : Act} {w w1 : World} {v : Value} {K : Act → World → Prop} (h : K (a.put N v) w1) (hw : Region.wanted oi (yielded ops a.tmps) = true := by rfl) (hN : oi.dst = N := by rfl) (hrun : (execOp a.eval oi).run P w = .ok (.value v) w1 := by (go_simp; exact ⟨rfl, rfl⟩)) : if Region.wanted oi (yielded ops a.tmps) = true then Oper.wp P oi a w K Q else K (a.put N undef) w := value_ hw hN hrun h
section
variable (i n : Nat) {oi : Oper} {fuel : Nat} {l l' : Array Bool} {a : Act} {w : World}
theorem oS_ (h : ∀ K : Act → World → Prop, Shut (∀ a' w', S w' → (S w' → wpAnyLast P md ops Q S ds fuel l' a' w') → K a' w') → if Region.wanted oi (yielded ops a.tmps) = true then Oper.wp P oi a w K Q else K (a.put (some n) undef) w) (hi : ops[i]? = some oi := by rfl) (hN : oi.dst = some n := by rfl)
    (hl : l.setIfInBounds i true = l' := by (simp only [List.setIfInBounds_toArray, List.set_cons_zero, List.set_cons_succ]; rfl)) (hc : readyB md ops l l' i = true := by kernel_rfl) (hd : i ∉ ds := by decide) : wpAnyLast P md ops Q S ds (fuel + 1) l a w := one_ (i := i) (N := some n) l' hi hN hc hd h
theorem lS_ (h : ∀ K : Act → World → Prop, Shut (∀ a' w', wpAnyLast P md ops Q S ds fuel l' a' w' → K a' w') → if Region.wanted oi (yielded ops a.tmps) = true then Oper.wp P oi a w K Q else K (a.put (some n) undef) w) (hi : ops[i]? = some oi := by rfl) (hN : oi.dst = some n := by rfl)
    (hl : l.setIfInBounds i true = l' := by (simp only [List.setIfInBounds_toArray, List.set_cons_zero, List.set_cons_succ]; rfl)) (hc : readyB md ops l l' i = true := by kernel_rfl) (hd : i ∈ ds := by decide) : wpAnyLast P md ops Q S ds (fuel + 1) l a w := last_ (i := i) (N := some n) l' hi hN hc hd h
theorem oT_ (hT : rtab md ops = T) (h : ∀ K : Act → World → Prop, Shut (∀ a' w', S w' → (S w' → wpAnyLast P md ops Q S ds fuel l' a' w') → K a' w') → if Region.wanted oi (yielded ops a.tmps) = true then Oper.wp P oi a w K Q else K (a.put (some n) undef) w) (hi : ops[i]? = some oi := by rfl) (hN : oi.dst = some n := by rfl)
    (hl : l.setIfInBounds i true = l' := by (simp only [List.setIfInBounds_toArray, List.set_cons_zero, List.set_cons_succ]; rfl)) (hc : (readyT T.2 l.toList == [i] && l.toList.set i true == l'.toList) = true := by kernel_rfl) (hd : i ∉ ds := by decide) : wpAnyLast P md ops Q S ds (fuel + 1) l a w := one_ (i := i) (N := some n) l' hi hN (one_of hT hc) hd h
theorem lT_ (hT : rtab md ops = T) (h : ∀ K : Act → World → Prop, Shut (∀ a' w', wpAnyLast P md ops Q S ds fuel l' a' w' → K a' w') → if Region.wanted oi (yielded ops a.tmps) = true then Oper.wp P oi a w K Q else K (a.put (some n) undef) w) (hi : ops[i]? = some oi := by rfl) (hN : oi.dst = some n := by rfl)
    (hl : l.setIfInBounds i true = l' := by (simp only [List.setIfInBounds_toArray, List.set_cons_zero, List.set_cons_succ]; rfl)) (hc : (readyT T.2 l.toList == [i] && l.toList.set i true == l'.toList) = true := by kernel_rfl) (hd : i ∈ ds := by decide) : wpAnyLast P md ops Q S ds (fuel + 1) l a w := last_ (i := i) (N := some n) l' hi hN (one_of hT hc) hd h
end
section
variable (i : Nat) {oi : Oper} {fuel : Nat} {l l' : Array Bool} {a : Act} {w : World}
theorem oN_ (h : ∀ K : Act → World → Prop, Shut (∀ a' w', S w' → (S w' → wpAnyLast P md ops Q S ds fuel l' a' w') → K a' w') → if Region.wanted oi (yielded ops a.tmps) = true then Oper.wp P oi a w K Q else K (a.put none undef) w) (hi : ops[i]? = some oi := by rfl) (hN : oi.dst = none := by rfl)
    (hl : l.setIfInBounds i true = l' := by (simp only [List.setIfInBounds_toArray, List.set_cons_zero, List.set_cons_succ]; rfl)) (hc : readyB md ops l l' i = true := by kernel_rfl) (hd : i ∉ ds := by decide) : wpAnyLast P md ops Q S ds (fuel + 1) l a w := one_ (i := i) (N := none) l' hi hN hc hd h
theorem lN_ (h : ∀ K : Act → World → Prop, Shut (∀ a' w', wpAnyLast P md ops Q S ds fuel l' a' w' → K a' w') → if Region.wanted oi (yielded ops a.tmps) = true then Oper.wp P oi a w K Q else K (a.put none undef) w) (hi : ops[i]? = some oi := by rfl) (hN : oi.dst = none := by rfl)
    (hl : l.setIfInBounds i true = l' := by (simp only [List.setIfInBounds_toArray, List.set_cons_zero, List.set_cons_succ]; rfl)) (hc : readyB md ops l l' i = true := by kernel_rfl) (hd : i ∈ ds := by decide) : wpAnyLast P md ops Q S ds (fuel + 1) l a w := last_ (i := i) (N := none) l' hi hN hc hd h
theorem oU_ (hT : rtab md ops = T) (h : ∀ K : Act → World → Prop, Shut (∀ a' w', S w' → (S w' → wpAnyLast P md ops Q S ds fuel l' a' w') → K a' w') → if Region.wanted oi (yielded ops a.tmps) = true then Oper.wp P oi a w K Q else K (a.put none undef) w) (hi : ops[i]? = some oi := by rfl) (hN : oi.dst = none := by rfl)
    (hl : l.setIfInBounds i true = l' := by (simp only [List.setIfInBounds_toArray, List.set_cons_zero, List.set_cons_succ]; rfl)) (hc : (readyT T.2 l.toList == [i] && l.toList.set i true == l'.toList) = true := by kernel_rfl) (hd : i ∉ ds := by decide) : wpAnyLast P md ops Q S ds (fuel + 1) l a w := one_ (i := i) (N := none) l' hi hN (one_of hT hc) hd h
theorem lU_ (hT : rtab md ops = T) (h : ∀ K : Act → World → Prop, Shut (∀ a' w', wpAnyLast P md ops Q S ds fuel l' a' w' → K a' w') → if Region.wanted oi (yielded ops a.tmps) = true then Oper.wp P oi a w K Q else K (a.put none undef) w) (hi : ops[i]? = some oi := by rfl) (hN : oi.dst = none := by rfl)
    (hl : l.setIfInBounds i true = l' := by (simp only [List.setIfInBounds_toArray, List.set_cons_zero, List.set_cons_succ]; rfl)) (hc : (readyT T.2 l.toList == [i] && l.toList.set i true == l'.toList) = true := by kernel_rfl) (hd : i ∈ ds := by decide) : wpAnyLast P md ops Q S ds (fuel + 1) l a w := last_ (i := i) (N := none) l' hi hN (one_of hT hc) hd h
end
theorem bA {n : Nat} {w w' : World} (h : Below n w w' := by repeat (first | (with_reducible first | exact HB.out | apply below_alloc | apply pw_below_drewN | apply below_drew1) | exact HB.out)) : Below n w w' := h
theorem rA {α : Type} {K : Kd α} {e : TypeId} {w w' : World} {base : Nat} {ok : Nat → Prop} {v : Value} {xs : List α} (h : Kd.R K e w base ok v xs) (g : Kd.R K e w base ok v xs → Kd.R K e w' base ok v xs := by (intro h; (with_reducible repeat (first | apply Kd.R_alloc | apply Kd.R_drewN | apply Kd.R_drew)); exact h)) : Kd.R K e w' base ok v xs := g h
theorem cA {α : Type} {K : Kd α} {w w' : World} {A : Option Addr} {n : Nat} {xs : List α} (h : Kd.C K w A n xs) (g : Kd.C K w A n xs → Kd.C K w' A n xs := by (intro h; repeat (first | exact h | (with_reducible refine Kd.C_alloc ?_ _) | (with_reducible refine Kd.C_drewN ?_ _) | (with_reducible refine Kd.C_drew ?_)))) : Kd.C K w' A n xs := g h
theorem eL {α β : Type} {d : Kd α} {c : Kd β} {e e2 : Nat} {W0 W w1 : World} {base : Nat} {ok ok2 : Nat → Prop} {u v : Value} {xs : List α} {ys : List β} (h : Aside0 (d.R e W0 base ok u xs)) (ho : c.R e2 w1 W.heap.size ok2 v ys) (hb : Below W.heap.size W w1) (g : d.R e W0 base ok u xs → d.R e W base ok u xs := by (intro h; (with_reducible repeat (first | apply Kd.R_alloc | apply Kd.R_drewN | apply Kd.R_drew)); exact h)) : Aside0 (d.R e w1 base (fun k => ok k ∧ some k ≠ v.ownBlock) u xs) := ⟨Kd.R_elder' (g h.out) (Kd.R_base ho) hb⟩
theorem gL_ {rest : List Oper} {oi : Oper} {a : Act} {w : World} (n : Nat) {f : FuncId} {fn : Func} {ars : Array Operand} {ts : Array TypeId} (hf : P.funcs[f]? = some fn) (args : Array Value) (h : Calls P f args w fun e w' => ∃ v, e = .returned v ∧ wpList P ops Q rest (a.put (some n) v) w')
    (hd : oi.dst = some n := by rfl) (hg : oi.guard = none := by rfl) (hname : (fn.name == "runtime.NumGoroutine") = false := by kernel_rfl) (hb : fn.body.isSome = true := by rfl) (hop : oi.op = .call { callee := .value (.func f), args := ars, argTypes := ts } := by rfl) (hargs : ars.map a.eval = args := by ((try simp only [List.map_toArray, List.map_cons, List.map_nil]); first | done | rfl | (simp only [List.length_drop, List.length_take]; rfl))) : wpList P ops Q (oi :: rest) a w := goesL_ (some n) hd hg hf hname hb args hop hargs h
theorem aA {p : Prop} (h : p := by ((try simp only [List.map_toArray, List.map_cons, List.map_nil]); first | done | rfl | (simp only [List.length_drop, List.length_take]; rfl))) : p := h
theorem eA {p : Prop} (h : p := by (first | rfl | (simp [errW_none, errW_some] <;> rfl) | (simp [*, errW_none, errW_some] <;> rfl))) : p := h
theorem gA {p : Prop} (h : p := by (first | rfl | (simp; done) | (simp [*]; done))) : p := h
theorem nA {p : Prop} (h : p := by (first | exact Kd.R_nil _ _ _ _ _ | exact Kd.N_nil _ _ _ _ _ | exact Kd.V_nil _ _ _ _ _ | exact Kd.Q_nil _ _ _ _ _ | exact Kd.S_nil _ _ _ _ _)) : p := h
theorem hA {p : Prop} (h : p := by (first | (go_simp; done) | (go_simp; rfl))) : p := h
theorem sA {p : Prop} (h : p := by (first | (with_reducible assumption) | assumption)) : p := h
end
end Go.Proofs.YtejdflndgnpkcaaGreat.PL
end
section
namespace Go.Proofs.YtejdflndgnpkcaaGreat.PL
section
open Go.RowKit PW PM
variable {α β γ : Type} {p : Prop} [Decidable p] {x y r : α} {o : Option β} {f : β → Option γ} {z : Option α} {u : γ} {a b : Int} {t : Bool} {w w' : World} {n : Nat}
theorem qC (h : (if p then x else y) = r) : p ∧ x = r ∨ ¬ p ∧ y = r := by
  by_cases c : p
  · rw [if_pos c] at h; exact .inl ⟨c, h⟩
  · rw [if_neg c] at h; exact .inr ⟨c, h⟩
theorem qL (h : (if p then x else y) = r) : decide p = true ∧ x = r ∨ decide p = false ∧ y = r := (qC h).imp (fun h => ⟨decide_eq_true h.1, h.2⟩) (fun h => ⟨decide_eq_false h.1, h.2⟩)
theorem qLc (h : (if p then x else y) = r) : (p ∧ decide p = true ∧ x = r) ∨ (¬ p ∧ decide p = false ∧ y = r) := (qC h).imp (fun h => ⟨h.1, decide_eq_true h.1, h.2⟩) (fun h => ⟨h.1, decide_eq_false h.1, h.2⟩)
theorem qG (h : (if a ≥ b then x else y) = r) : decide (b ≤ a) = true ∧ x = r ∨ decide (b ≤ a) = false ∧ y = r := qL h
theorem qM (h : (if a > b then x else y) = r) : decide (b < a) = true ∧ x = r ∨ decide (b < a) = false ∧ y = r := qL h
theorem qE (h : (if a = b then x else y) = r) : ((a == b) = true ∧ (a != b) = false ∧ x = r) ∨ (¬ a = b ∧ (a == b) = false ∧ (a != b) = true ∧ y = r) :=
  (qC h).imp (fun h => ⟨beq_iff_eq.mpr h.1, bne_eq_false_iff_eq.mpr h.1, h.2⟩) (fun h => ⟨h.1, beq_eq_false_iff_ne.mpr h.1, bne_iff_ne.mpr h.1, h.2⟩)
theorem qF (h : (if a = b then x else y) = r) : ((a == b) = true ∧ (a != b) = false ∧ x = r) ∨ ((a == b) = false ∧ (a != b) = true ∧ y = r) := (qE h).imp id And.right
theorem qB (h : (if t = true then x else y) = r) : t = true ∧ x = r ∨ t = false ∧ y = r := (qC h).imp id (fun h => ⟨Bool.eq_false_iff.mpr h.1, h.2⟩)
theorem nC {r : α} (h : (if p then z else none) = some r) : p ∧ z = some r := (qC h).elim id (fun h => nomatch h.2)
theorem nL {r : α} (h : (if p then z else none) = some r) : decide p = true ∧ z = some r := ⟨decide_eq_true (nC h).1, (nC h).2⟩
theorem qS (h : o.bind f = some u) : ∃ t, Aside0 (o = some t) ∧ f t = some u := (Option.bind_eq_some_iff.mp h).imp fun _ h => ⟨⟨h.1⟩, h.2⟩
theorem qP {a c : α} {b d : β} (h : some (a, b) = some (c, d)) : a = c ∧ b = d := by cases h; exact ⟨rfl, rfl⟩
theorem kM {q : Addr} {v : Value} (hb : Below w.heap.size w w') (h : w.cell? q = some v) : w'.cell? q = some v := (hb.cell (World.block_lt_of_cell? w _ h)).trans h
theorem aT {R : Prop} {i m : Int} (h : 0 ≤ i → i < m → R) (c0 : decide (0 ≤ i) = true := by first | (with_reducible assumption) | assumption) (c1 : decide (i < m) = true := by first | (with_reducible assumption) | assumption) : (0 ≤ i) = True ∧ (i < m) = True ∧ R :=
  ⟨eq_true (of_decide_eq_true c0), eq_true (of_decide_eq_true c1), h (of_decide_eq_true c0) (of_decide_eq_true c1)⟩
theorem yE {Y : β} {f : β → Option γ} (h : (some Y).bind f = some u) : ∃ y, y = Y ∧ f y = some u := ⟨Y, rfl, h⟩
theorem bs2 (a b : UInt8) : (⟨#[a, b]⟩ : ByteArray).size = 2 := rfl
theorem bs4 (a b c d : UInt8) : (⟨#[a, b, c, d]⟩ : ByteArray).size = 4 := rfl
theorem bs8 (a b c d e f g h : UInt8) : (⟨#[a, b, c, d, e, f, g, h]⟩ : ByteArray).size = 8 := rfl
theorem cB {α : Type} {K : Kd α} {A : Option Addr} {xs : List α} (h : Kd.C K w A n xs) (g : Kd.C K w A n xs → Kd.C K w' A n xs := by (intro h_; repeat (first | exact (Kd.C_below h_ HB.out) | (with_reducible refine Kd.C_alloc ?_ _) | (with_reducible refine Kd.C_drewN ?_ _) | (with_reducible refine Kd.C_drew ?_)))) : Kd.C K w' A n xs := g h
theorem blk1 {v0 : Value} {ty : TypeId} (h : w.heap[n]? = some (.cells #[v0] ty (0, 0))) : w.cell? ⟨n, 0, none⟩ = some v0 ∧ w.frozen? ⟨n, 0, none⟩ = false := ⟨(blk_cell h 0).trans rfl, blk_frozen h 0⟩
theorem blk2 {v0 v1 : Value} {ty : TypeId} (h : w.heap[n]? = some (.cells #[v0, v1] ty (0, 0))) : w.cell? ⟨n, 0, none⟩ = some v0 ∧ w.cell? ⟨n, 1, none⟩ = some v1 ∧ w.frozen? ⟨n, 0, none⟩ = false ∧ w.frozen? ⟨n, 1, none⟩ = false := ⟨(blk_cell h 0).trans rfl, (blk_cell h 1).trans rfl, blk_frozen h 0, blk_frozen h 1⟩
theorem blk3 {v0 v1 v2 : Value} {ty : TypeId} (h : w.heap[n]? = some (.cells #[v0, v1, v2] ty (0, 0))) : w.cell? ⟨n, 0, none⟩ = some v0 ∧ w.cell? ⟨n, 1, none⟩ = some v1 ∧ w.cell? ⟨n, 2, none⟩ = some v2 ∧ w.frozen? ⟨n, 0, none⟩ = false ∧ w.frozen? ⟨n, 1, none⟩ = false ∧ w.frozen? ⟨n, 2, none⟩ = false := ⟨(blk_cell h 0).trans rfl, (blk_cell h 1).trans rfl, (blk_cell h 2).trans rfl, blk_frozen h 0, blk_frozen h 1, blk_frozen h 2⟩
theorem blk4 {v0 v1 v2 v3 : Value} {ty : TypeId} (h : w.heap[n]? = some (.cells #[v0, v1, v2, v3] ty (0, 0))) : w.cell? ⟨n, 0, none⟩ = some v0 ∧ w.cell? ⟨n, 1, none⟩ = some v1 ∧ w.cell? ⟨n, 2, none⟩ = some v2 ∧ w.cell? ⟨n, 3, none⟩ = some v3 ∧ w.frozen? ⟨n, 0, none⟩ = false ∧ w.frozen? ⟨n, 1, none⟩ = false ∧ w.frozen? ⟨n, 2, none⟩ = false ∧ w.frozen? ⟨n, 3, none⟩ = false := ⟨(blk_cell h 0).trans rfl, (blk_cell h 1).trans rfl, (blk_cell h 2).trans rfl, (blk_cell h 3).trans rfl, blk_frozen h 0, blk_frozen h 1, blk_frozen h 2, blk_frozen h 3⟩
theorem blk5 {v0 v1 v2 v3 v4 : Value} {ty : TypeId} (h : w.heap[n]? = some (.cells #[v0, v1, v2, v3, v4] ty (0, 0))) : w.cell? ⟨n, 0, none⟩ = some v0 ∧ w.cell? ⟨n, 1, none⟩ = some v1 ∧ w.cell? ⟨n, 2, none⟩ = some v2 ∧ w.cell? ⟨n, 3, none⟩ = some v3 ∧ w.cell? ⟨n, 4, none⟩ = some v4 ∧ w.frozen? ⟨n, 0, none⟩ = false ∧ w.frozen? ⟨n, 1, none⟩ = false ∧ w.frozen? ⟨n, 2, none⟩ = false ∧ w.frozen? ⟨n, 3, none⟩ = false ∧ w.frozen? ⟨n, 4, none⟩ = false := ⟨(blk_cell h 0).trans rfl, (blk_cell h 1).trans rfl, (blk_cell h 2).trans rfl, (blk_cell h 3).trans rfl, (blk_cell h 4).trans rfl, blk_frozen h 0, blk_frozen h 1, blk_frozen h 2, blk_frozen h 3, blk_frozen h 4⟩
theorem bG {T : Prop} (g : T) (h : T → Below n w w' := by (intro g_; repeat (first | (with_reducible first | exact HB.out | apply below_alloc | apply pw_below_drewN | apply below_drew1 | refine below_set ?_ g_) | exact HB.out))) : Below n w w' := h g
end
end Go.Proofs.YtejdflndgnpkcaaGreat.PL
end
section
namespace Go.Proofs.YtejdflndgnpkcaaGreat.PL
section
open Go.RowKit PW PM
theorem nD {α : Type} {p : Prop} [Decidable p] {z : Option α} {r : α} (h : (if p then z else none) = some r) : p ∧ (p = True) ∧ decide p = true ∧ z = some r := ⟨(nC h).1, eq_true (nC h).1, decide_eq_true (nC h).1, (nC h).2⟩
section
variable {P : Program} {o : Oper} {a : Act} {ops : Array Oper} {rest : List Oper} {Q : Exit → Act → World → Prop} {w0 W : World} (N t : Nat)
theorem box4 (x0 x1 x2 x3 : Int) (h : ∀ g w1, Aside0 (w1.heap[g]? = some (.cells #[.int .i64 x0, .int .i64 x1, .int .i64 x2, .int .i64 x3] t (0, 0))) → Aside0 (w0.heap.size ≤ g) → Aside0 (w0.heap.size ≤ g) → Aside0 (Below w0.heap.size w0 w1) →
    w1.cell? ⟨g, 0, none⟩ = some (.int .i64 x0) → w1.cell? ⟨g, 1, none⟩ = some (.int .i64 x1) → w1.cell? ⟨g, 2, none⟩ = some (.int .i64 x2) → w1.cell? ⟨g, 3, none⟩ = some (.int .i64 x3) →
    w1.frozen? ⟨g, 0, none⟩ = false → w1.frozen? ⟨g, 1, none⟩ = false → w1.frozen? ⟨g, 2, none⟩ = false → w1.frozen? ⟨g, 3, none⟩ = false → wpList P ops Q rest (a.put o.dst (.pointer (some ⟨g, 0, none⟩))) w1)
    (hd : o.dst = some N := by rfl) (hg : o.guard = none := by rfl)
    (hr : (execOp a.eval o).run P W = .ok (.value (.pointer (some ⟨W.heap.size, 0, none⟩))) (W.alloc (.cells #[.int .i64 x0, .int .i64 x1, .int .i64 x2, .int .i64 x3] t (0, 0))) := by (first | (go_simp; done) | (go_simp; rfl)))
    (hb : Below w0.heap.size w0 W := by repeat (first | (with_reducible first | exact HB.out | apply below_alloc | apply pw_below_drewN | apply below_drew1) | exact HB.out)) : wpList P ops Q (o :: rest) a W := by
  refine box_event hg hd hr ?_
  intro g e w1 hx hb1
  obtain ⟨z0, z1, z2, z3, f0, f1, f2, f3⟩ := blk4 hx
  have hz : w0.heap.size ≤ g := by rw [e]; exact below_size hb
  exact h g w1 ⟨hx⟩ ⟨hz⟩ ⟨hz⟩ ⟨below_step hb hb1⟩ z0 z1 z2 z3 f0 f1 f2 f3
theorem box5 (v0 v1 v2 v3 v4 : Value) (h : ∀ g w1, Aside0 (w1.heap[g]? = some (.cells #[v0, v1, v2, v3, v4] t (0, 0))) → Aside0 (w0.heap.size ≤ g) → Aside0 (w0.heap.size ≤ g) → Aside0 (Below w0.heap.size w0 w1) →
    w1.cell? ⟨g, 0, none⟩ = some v0 → w1.cell? ⟨g, 1, none⟩ = some v1 → w1.cell? ⟨g, 2, none⟩ = some v2 → w1.cell? ⟨g, 3, none⟩ = some v3 → w1.cell? ⟨g, 4, none⟩ = some v4 →
    w1.frozen? ⟨g, 0, none⟩ = false → w1.frozen? ⟨g, 1, none⟩ = false → w1.frozen? ⟨g, 2, none⟩ = false → w1.frozen? ⟨g, 3, none⟩ = false → w1.frozen? ⟨g, 4, none⟩ = false → wpList P ops Q rest (a.put o.dst (.pointer (some ⟨g, 0, none⟩))) w1)
    (hd : o.dst = some N := by rfl) (hg : o.guard = none := by rfl)
    (hr : (execOp a.eval o).run P W = .ok (.value (.pointer (some ⟨W.heap.size, 0, none⟩))) (W.alloc (.cells #[v0, v1, v2, v3, v4] t (0, 0))) := by (first | (go_simp; done) | (go_simp; rfl)))
    (hb : Below w0.heap.size w0 W := by repeat (first | (with_reducible first | exact HB.out | apply below_alloc | apply pw_below_drewN | apply below_drew1) | exact HB.out)) : wpList P ops Q (o :: rest) a W := by
  refine box_event hg hd hr ?_
  intro g e w1 hx hb1
  obtain ⟨z0, z1, z2, z3, z4, f0, f1, f2, f3, f4⟩ := blk5 hx
  have hz : w0.heap.size ≤ g := by rw [e]; exact below_size hb
  exact h g w1 ⟨hx⟩ ⟨hz⟩ ⟨hz⟩ ⟨below_step hb hb1⟩ z0 z1 z2 z3 z4 f0 f1 f2 f3 f4
end
section
variable {P : Program} {ops : Array Oper} {Q : Exit → Act → World → Prop} {rest : List Oper} {oi : Oper} {a : Act} {w0 w : World} {f : FuncId} {ars : Array Operand} {ts : Array TypeId} {args : Array Value} {v : Value}
theorem gD_ (n : Nat) {fn : Func} (hf : P.funcs[f]? = some fn) (hc : Calls P f args w fun e w' => e = .returned v ∧ Drawn0 w w') (h : ∀ nd, wpList P ops Q rest (a.put (some n) v) (w.drewN nd))
    (hd : oi.dst = some n := by rfl) (hg : oi.guard = none := by rfl) (hname : (fn.name == "runtime.NumGoroutine") = false := by kernel_rfl) (hb : fn.body.isSome = true := by rfl) (hop : oi.op = .call { callee := .value (.func f), args := ars, argTypes := ts } := by rfl) (hargs : ars.map a.eval = args := by ((try simp only [List.map_toArray, List.map_cons, List.map_nil]); first | done | rfl | (simp only [List.length_drop, List.length_take]; rfl))) : wpList P ops Q (oi :: rest) a w :=
  goesL_ (some n) hd hg hf hname hb args hop hargs (hc.mono (by rintro e w' ⟨rfl, ⟨nd, rfl⟩⟩; exact ⟨_, rfl, h nd⟩))
theorem gC_ (n : Nat) {fn : Func} (hf : P.funcs[f]? = some fn) (hc : Calls P f args w fun e w' => e = .returned v ∧ Below w.heap.size w w') (h : ∀ w', Below w.heap.size w w' → wpList P ops Q rest (a.put (some n) v) w')
    (hd : oi.dst = some n := by rfl) (hg : oi.guard = none := by rfl) (hname : (fn.name == "runtime.NumGoroutine") = false := by kernel_rfl) (hb : fn.body.isSome = true := by rfl) (hop : oi.op = .call { callee := .value (.func f), args := ars, argTypes := ts } := by rfl) (hargs : ars.map a.eval = args := by ((try simp only [List.map_toArray, List.map_cons, List.map_nil]); first | done | rfl | (simp only [List.length_drop, List.length_take]; rfl))) : wpList P ops Q (oi :: rest) a w :=
  goesL_ (some n) hd hg hf hname hb args hop hargs (hc.mono (by rintro e w' ⟨rfl, hw⟩; exact ⟨_, rfl, h w' hw⟩))
theorem gB_ (n : Nat) {fn : Func} (hf : P.funcs[f]? = some fn) (hc : Calls P f args w fun e w' => e = .returned v ∧ Below w.heap.size w w') (h : ∀ w', Below w.heap.size w w' → Aside0 (Below w0.heap.size w0 w') → wpList P ops Q rest (a.put (some n) v) w')
    (hd : oi.dst = some n := by rfl) (hg : oi.guard = none := by rfl) (hname : (fn.name == "runtime.NumGoroutine") = false := by kernel_rfl) (hb : fn.body.isSome = true := by rfl) (hop : oi.op = .call { callee := .value (.func f), args := ars, argTypes := ts } := by rfl) (hargs : ars.map a.eval = args := by ((try simp only [List.map_toArray, List.map_cons, List.map_nil]); first | done | rfl | (simp only [List.length_drop, List.length_take]; rfl)))
    (hB : Below w0.heap.size w0 w := by repeat (first | (with_reducible first | exact HB.out | apply below_alloc | apply pw_below_drewN | apply below_drew1) | exact HB.out)) : wpList P ops Q (oi :: rest) a w :=
  gC_ n hf hc (fun w' hw => h w' hw ⟨below_step hB hw⟩) hd hg hname hb hop hargs
theorem mB_ {K : Ending → World → Prop} (hc : Calls P f args w fun e w' => e = .returned v ∧ Below w.heap.size w w') (h : ∀ w', Below w.heap.size w w' → Aside0 (Below w0.heap.size w0 w') → K (.returned v) w')
    (hB : Below w0.heap.size w0 w := by repeat (first | (with_reducible first | exact HB.out | apply below_alloc | apply pw_below_drewN | apply below_drew1) | exact HB.out)) : Calls P f args w K := hc.mono (by rintro e w' ⟨rfl, hw⟩; exact h w' hw ⟨below_step hB hw⟩)
end
section
variable {P : Program} {ops : Array Oper} {Q : Exit → Act → World → Prop} {md : Region.Mode} {S : World → Prop} {ds : List Nat} {T : Bool × List (List Nat × List Nat)}
theorem pU_ (i n : Nat) {oi : Oper} {fuel : Nat} {l l' : Array Bool} {a a' : Act} {w : World} (h : wpAnyLast P md ops Q S ds fuel l' a' w) (hi : ops[i]? = some oi := by rfl) (hN : oi.dst = some n := by rfl)
    (hl : l.setIfInBounds i true = l' := by (simp only [List.setIfInBounds_toArray, List.set_cons_zero, List.set_cons_succ]; rfl)) (hc : anyB md ops l l' i = true := by kernel_rfl)
    (hQ : ∀ c a w, Q (.panic c) (a.put oi.dst undef) w → Q (.panic c) a w := by exact fun _ _ _ h => h) (hy : Yields P ops oi undef a := by exact Or.inr ⟨by rfl, rfl⟩) (ha : a.put (some n) undef = a' := by (simp only [Act.put, List.setIfInBounds_toArray, List.set_cons_zero, List.set_cons_succ, i64_w, i32_w]; rfl)) : wpAnyLast P md ops Q S ds (fuel + 1) l a w := by
  subst hl
  exact pure_ (i := i) (N := some n) _ hi hN hc hQ hy ha h
theorem pV_ (hT : rtab md ops = T) (i n : Nat) {oi : Oper} {fuel : Nat} {l l' : Array Bool} {a a' : Act} {w : World} (h : wpAnyLast P md ops Q S ds fuel l' a' w) (hi : ops[i]? = some oi := by rfl) (hN : oi.dst = some n := by rfl)
    (hl : l.setIfInBounds i true = l' := by (simp only [List.setIfInBounds_toArray, List.set_cons_zero, List.set_cons_succ]; rfl)) (hc : anyT T l.toList l'.toList i = true := by kernel_rfl)
    (hQ : ∀ c a w, Q (.panic c) (a.put oi.dst undef) w → Q (.panic c) a w := by exact fun _ _ _ h => h) (hy : Yields P ops oi undef a := by exact Or.inr ⟨by rfl, rfl⟩) (ha : a.put (some n) undef = a' := by (simp only [Act.put, List.setIfInBounds_toArray, List.set_cons_zero, List.set_cons_succ, i64_w, i32_w]; rfl)) : wpAnyLast P md ops Q S ds (fuel + 1) l a w := by
  subst hl
  exact pure_ (i := i) (N := some n) _ hi hN (any_of hT hc) hQ hy ha h
theorem bh_ {id : Nat} {a : Act} {w : World} (n : Nat) (S : World → Prop) (ds : List Nat) {l : Array Bool} (hS : S w.drew) (h : S w.drew → wpAnyLast P .any ops Q S ds n l a w.drew) (hm : P.follows .mixedOrders = true := by kernel_rfl) (hn : ops.size = n := by rfl)
    (hl : Array.replicate n false = l := by (simp only [Array.replicate_succ, Array.replicate_zero, List.push_toArray, List.nil_append, List.cons_append]; rfl)) : (Code.region id ops true).wp P Q a w := start_ l hm hn hl hS h
theorem bg_ {id : Nat} {a : Act} {w : World} (n : Nat) (S : World → Prop) {l : Array Bool} (hS : S w.drew) (h : S w.drew → wpAnyLast P .any ops Q S [] n l a w.drew) (hm : P.follows .mixedOrders = true := by kernel_rfl) (hn : ops.size = n := by rfl)
    (hl : Array.replicate n false = l := by (simp only [Array.replicate_succ, Array.replicate_zero, List.push_toArray, List.nil_append, List.cons_append]; rfl)) : (Code.region id ops true).wp P Q a w := start_ l hm hn hl hS h
end
end
end Go.Proofs.YtejdflndgnpkcaaGreat.PL
namespace Go.Proofs.YtejdflndgnpkcaaGreat
open Go.RowKit PW
theorem aK {p : Prop} (h : p) : Aside0 p := ⟨h⟩
theorem hI {p : Prop} (h : p) : Hid p := h
theorem oK {p : Prop} (h : p := by ((try have := HJ0.out); (try have := HJ1.out); (try have := HJ2.out); (try have := HJ3.out); (try have := HJ4.out); (try have := HJ5.out); (try have := HJ6.out); (try have := HJ8.out); (try have := HJ12.out); (try have := HK1.out); (try have := HK2.out); (try have := HK3.out); (try have := HK4.out); (try have := HK5.out); (try have := HK6.out); (try have := HK7.out); (try have := HK8.out); first | omega | exact Nat.le_refl _)) : p := h
end Go.Proofs.YtejdflndgnpkcaaGreat
end
section
namespace Go.Proofs.YtejdflndgnpkcaaGreat.P
open Go.RowKit PW PL PM
attribute [local go_sem] max2_int min2_int max_two min_two max_three min_three max_four min_four
def r03_Power.l0 : Nat → Int → Int → Int → Option (Int)
 | 0, _, _, _ => none
 | k + 1, x0, x3, x4 => if x4 < x0 then (r03_Power.l0 k x0 (wrap64 (256 * x3)) (wrap64 (x4 + 1))) else (some x3)
def r03_Power.f (k : Nat) (a0 : Int) : Option (Int) := r03_Power.l0 k a0 1 0
theorem r03_Power.mono_l : ∀ k, (∀ y0 y1 y2, LeO (r03_Power.l0 k y0 y1 y2) (r03_Power.l0 (k + 1) y0 y1 y2))
 | 0 => fun _ _ _ r h => by simp [r03_Power.l0] at h
 | k + 1 => by
  have ih0 := r03_Power.mono_l k
  ·
   intro y0 y1 y2;unfold r03_Power.l0;repeat' first
   | (with_reducible exact ih0 _ _ _)
   | (with_reducible exact LeO.refl _)
   | (with_reducible exact LeO.none _)
   | (with_reducible refine LeO.ite ?_ ?_)
   | (with_reducible refine LeO.bind ?_ (fun _ => ?_))
   | exact ih0 _ _ _
   | exact LeO.none _
   | refine LeO.ite ?_ ?_
   | refine LeO.bind ?_ (fun _ => ?_)
theorem r03_Power.mono : ∀ a0 k, LeO (r03_Power.f k a0) (r03_Power.f (k + 1) a0) := by
 intro a0 k;have ih0 := r03_Power.mono_l k;unfold r03_Power.f
 repeat' first
   | (with_reducible exact ih0 _ _ _)
   | (with_reducible exact LeO.refl _)
   | (with_reducible exact LeO.none _)
   | (with_reducible refine LeO.ite ?_ ?_)
   | (with_reducible refine LeO.bind ?_ (fun _ => ?_))
   | exact ih0 _ _ _
   | exact LeO.none _
   | refine LeO.ite ?_ ?_
   | refine LeO.bind ?_ (fun _ => ?_)
theorem r03_Power.calls (k : Nat) (a0 : Int) (r : Int) (w : World) (h : r03_Power.f k a0 = some r) :
  Calls Tryz.prog 54 #[.int .i64 a0] w fun e w' => e = .returned (.int .i64 r) ∧ Drawn0 w w' := by
 have H : (r03_Power.l0 k a0 1 0) = some r := h;clear h;have H' := aK H;clear H;go_enter Tryz.func54, Tryz.ntmps54;go_wp2;go_loopg [3, 4] k (fun kq v3 v4 w' => ∃ (x3_1 : Int) (x4_1 : Int), v3 = .int .i64 x3_1 ∧ v4 = .int .i64 x4_1 ∧ Aside0 (r03_Power.l0 kq a0 x3_1 x4_1 = some r) ∧ Aside0 (kq ≤ k) ∧ Drawn0 w w')
 case atStart => exact ⟨(1), (0), gA, gA, H', ⟨Nat.le_refl _⟩, by repeat (first | exact Drawn0.refl _ | apply Drawn0.step)⟩
 case round =>
  clear H';obtain ⟨x3_1, x4_1, rfl, rfl, HA, HK1, ⟨m1, rfl⟩⟩ := hrel;cases gk with
  | zero => exact absurd HA.out (by simp [r03_Power.l0])
  | succ k1 =>
   have H := HA.out;clear HA;simp only [r03_Power.l0] at H;replace H := qL H;rcases H with ⟨c2b0, H⟩ | ⟨c2b0, H⟩
   ·
    have H' := aK H;clear H;go_wp2;go_roundg k1
    case measure => exact oK
    case rel => exact ⟨(wrap64 (256 * x3_1)), (wrap64 (x4_1 + 1)), gA, gA, H', ⟨oK⟩, by repeat (first | exact Drawn0.refl _ | apply Drawn0.step)⟩
   obtain rfl := Option.some.inj H;go_wp2;go_ret;exact ⟨by first | rfl | (simp; done) | (simp [*]; done), by repeat (first | exact Drawn0.refl _ | apply Drawn0.step)⟩
def r03_One.l0 : Nat → ByteArray → Int → Int → Int → Option (Int)
 | 0, _, _, _, _ => none
 | k + 1, x0, x1, x5, x6 => if x6 < (x0.size : Int) then (if 0 ≤ x6 then (r03_One.l0 k x0 x1 (wrap64 ((wrap64 (256 * x5)) + (wrap64 (bt x0 x6)))) (wrap64 (x6 + 1))) else (none)) else (if x1 < 0 then ((r03_Power.f k (x0.size : Int)).bind fun t229 => (if x5 ≥ (wrap64 (Int.tdiv t229 2)) then ((r03_Power.f k (x0.size : Int)).bind fun t230 => (some (wrap64 (x5 - t230)))) else (some x5))) else (some x5))
def r03_One.f (k : Nat) (a0 : ByteArray) (a1 : Int) : Option (Int) := r03_One.l0 k a0 a1 0 0
theorem r03_One.calls (k : Nat) (a0 : ByteArray) (a1 : Int) (r : Int) (w : World) (h : r03_One.f k a0 a1 = some r) :
  Calls Tryz.prog 26 #[.string a0, .int .i64 a1] w fun e w' => e = .returned (.int .i64 r) ∧ Drawn0 w w' := by
 have H : (r03_One.l0 k a0 a1 0 0) = some r := h;clear h;have H' := aK H;clear H;go_enter Tryz.func26, Tryz.ntmps26;go_wp2;go_loopg [5, 6] k (fun kq v5 v6 w' => ∃ (x5_1 : Int) (x6_1 : Int), v5 = .int .i64 x5_1 ∧ v6 = .int .i64 x6_1 ∧ Aside0 (r03_One.l0 kq a0 a1 x5_1 x6_1 = some r) ∧ Aside0 (kq ≤ k) ∧ Drawn0 w w')
 case atStart => exact ⟨(0), (0), gA, gA, H', ⟨Nat.le_refl _⟩, by repeat (first | exact Drawn0.refl _ | apply Drawn0.step)⟩
 case round =>
  clear H';obtain ⟨x5_1, x6_1, rfl, rfl, HA, HK1, ⟨m1, rfl⟩⟩ := hrel;cases gk with
  | zero => exact absurd HA.out (by simp [r03_One.l0])
  | succ k1 =>
   have H := HA.out;clear HA;simp only [r03_One.l0] at H;replace H := qL H;rcases H with ⟨c3b0, H⟩ | ⟨c3b0, H⟩
   ·
    replace H := nL H;obtain ⟨c4b0, H⟩ := H;have H' := aK H;clear H;have p5 : 0 ≤ (x6_1 : Int) := of_decide_eq_true sA;have q5 : x6_1 < (a0.size : Int) := of_decide_eq_true sA;have hx5 := bt_at a0 x6_1;replace p5 := eq_true p5;replace q5 := eq_true q5;go_wp2;go_roundg k1
    case measure => exact oK
    case rel => exact ⟨(wrap64 ((wrap64 (256 * x5_1)) + (wrap64 (bt a0 x6_1)))), (wrap64 (x6_1 + 1)), gA, gA, H', ⟨oK⟩, by repeat (first | exact Drawn0.refl _ | apply Drawn0.step)⟩
   replace H := qL H;rcases H with ⟨c6b0, H⟩ | ⟨c6b0, H⟩
   ·
    replace H := qS H;obtain ⟨t229, A7, H⟩ := H;replace H := qG H;rcases H with ⟨c8b0, H⟩ | ⟨c8b0, H⟩
    ·
     replace H := qS H;obtain ⟨t230, A9, H⟩ := H;obtain rfl := Option.some.inj H;go_wp2_with (first | (go_at_call 54; (with_reducible refine (r03_Power.calls k1 (a0.size : Int) t229 _ A7.out).mono ?_); rintro e w' ⟨rfl, ⟨nd, rfl⟩⟩) | ((with_reducible refine gate_callee (f := 54) rfl ?_); refine gD_ 33 Tryz.func54 (r03_Power.calls k1 (a0.size : Int) t230 _ A9.out) ?_; intro nd))
     go_ret;exact ⟨by first | rfl | (simp; done) | (simp [*]; done), by repeat (first | exact Drawn0.refl _ | apply Drawn0.step)⟩
    obtain rfl := Option.some.inj H;go_wp2_with (first | (go_at_call 54; (with_reducible refine (r03_Power.calls k1 (a0.size : Int) t229 _ A7.out).mono ?_); rintro e w' ⟨rfl, ⟨nd, rfl⟩⟩))
    go_ret;exact ⟨by first | rfl | (simp; done) | (simp [*]; done), by repeat (first | exact Drawn0.refl _ | apply Drawn0.step)⟩
   obtain rfl := Option.some.inj H;go_wp2;go_ret;exact ⟨by first | rfl | (simp; done) | (simp [*]; done), by repeat (first | exact Drawn0.refl _ | apply Drawn0.step)⟩
mutual
def r03_Bytes.j0 : Nat → Int → Int → Option (ByteArray)
 | 0, _, _ => none
 | k + 1, x0, x1 => r03_Bytes.l0 k x0 x1 (⟨#[]⟩ : ByteArray) 0
def r03_Bytes.l0 : Nat → Int → Int → ByteArray → Int → Option (ByteArray)
 | 0, _, _, _, _ => none
 | k + 1, x0, x1, x5, x6 => if x6 < x1 then ((some (([(Int.tmod x0 256) % 256] : List Int) : List Int)).bind fun y376 => (if (strOfNums y376).size + x5.size ≤ 9223372036854775807 then (r03_Bytes.l0 k (wrap64 (Int.tdiv x0 256)) x1 ((strOfNums y376) ++ x5) (wrap64 (x6 + 1))) else (none))) else (some x5)
end
def r03_Bytes.f (k : Nat) (a0 : Int) (a1 : Int) : Option (ByteArray) := if a0 < 0 then ((r03_Power.f k a1).bind fun t375 => (r03_Bytes.j0 k (wrap64 (a0 + t375)) a1)) else (r03_Bytes.j0 k a0 a1)
theorem r03_Bytes.calls (k : Nat) (a0 : Int) (a1 : Int) (r : ByteArray) (w : World) (h : r03_Bytes.f k a0 a1 = some r) :
  Calls Tryz.prog 94 #[.int .i64 a0, .int .i64 a1] w fun e w' => e = .returned (.string r) ∧ Below w.heap.size w w' := by
 have HB := aK (Below.refl w.heap.size w);have H : (if a0 < 0 then ((r03_Power.f k a1).bind fun t375 => (r03_Bytes.j0 k (wrap64 (a0 + t375)) a1)) else (r03_Bytes.j0 k a0 a1)) = some r := h;clear h;have HC3 := aK H;clear H;go_enter Tryz.func94, Tryz.ntmps94;go_upto_if 8 with (fail)
 go_cut [0] (fun v0 wc => ∃ (kq : Nat) (x0_2 : Int), v0 = .int .i64 x0_2 ∧ Aside0 (r03_Bytes.j0 kq x0_2 a1 = some r) ∧ Aside0 (kq ≤ k) ∧ Aside0 (Below w.heap.size w wc))
 case first =>
  have H := HC3.out;clear HC3;replace H := qL H;rcases H with ⟨c4b0, H⟩ | ⟨c4b0, H⟩
  ·
   (first | rw [c4b0] | (simp only [i64_w, i32_w]; rw [c4b0]) | skip)
   replace H := qS H;obtain ⟨t375, A5, H⟩ := H;have H' := aK H;clear H;go_wp2_with (first | ((with_reducible refine gate_callee (f := 54) rfl ?_); refine gD_ 11 Tryz.func54 (r03_Power.calls k a1 t375 _ A5.out) ?_; intro nd))
   go_meet
   case rel => exact ⟨_, (wrap64 (a0 + t375)), gA, H', ⟨oK⟩, ⟨bA⟩⟩
  (first | rw [c4b0] | (simp only [i64_w, i32_w]; rw [c4b0]) | skip)
  have H' := aK H;clear H;go_wp2;go_meet
  case rel => exact ⟨_, (a0), gA, H', ⟨oK⟩, ⟨bA⟩⟩
 case rest =>
  clear HC3;obtain ⟨kq, x0_2, rfl, HA, HJ2, HB⟩ := hcut;cases kq with
  | zero => exact absurd HA.out (by simp [r03_Bytes.j0])
  | succ kj2 =>
   have H := HA.out;clear HA;simp only [r03_Bytes.j0] at H;have H' := aK H;clear H;go_wp2;go_loopg [0, 5, 6] kj2 (fun kq v0 v5 v6 w' => ∃ (x0_2 : Int) (x5_2 : ByteArray) (x6_2 : Int), v0 = .int .i64 x0_2 ∧ v5 = .string x5_2 ∧ v6 = .int .i64 x6_2 ∧ Aside0 (r03_Bytes.l0 kq x0_2 a1 x5_2 x6_2 = some r) ∧ Aside0 (kq ≤ kj2) ∧ Aside0 (Below w.heap.size w w'))
   case atStart => exact ⟨(x0_2), ((⟨#[]⟩ : ByteArray)), (0), gA, gA, gA, H', ⟨Nat.le_refl _⟩, ⟨bA⟩⟩
   case round =>
    clear H';obtain ⟨x0_2, x5_2, x6_2, rfl, rfl, rfl, HA, HK2, HB⟩ := hrel;cases gk with
    | zero => exact absurd HA.out (by simp [r03_Bytes.l0])
    | succ k2 =>
     have H := HA.out;clear HA;simp only [r03_Bytes.l0] at H;replace H := qL H;rcases H with ⟨c6b0, H⟩ | ⟨c6b0, H⟩
     ·
      replace H := yE H;obtain ⟨y376, hy376, H⟩ := H;have Ny376 := aK hy376;clear hy376;replace H := nD H;obtain ⟨c7, c7b0, c7b1, H⟩ := H;try have c7b2 : (9223372036854775807 < (strOfNums y376).size + x5_2.size) = False := eq_false (Nat.not_lt.2 c7)
      have H' := aK H;clear H;go_wp2_with (first | ((with_reducible refine gate_dst (N := 21) rfl ?_); refine Kd.R_lit (Kd.int .u8) _ 5 ?hg (N := 21) ?hd (xs := ([(Int.tmod x0_2 256) % 256] : List Int)) (inner := [.int .u8 ((Int.tmod x0_2 256) % 256)]) (ok := fun _ => True) (okp := fun _ => True) ?hr ?hp (fun _ hk => hk) trivial (Below.refl _ _) (Nat.le_refl _) (by simp) ?_; (case hd => rfl); (case hg => rfl); (case hr => exact hA); (case hp => exact (Reps.one (show Kd.M (Kd.int .u8) _ _ _ ((Int.tmod x0_2 256) % 256) [.int .u8 ((Int.tmod x0_2 256) % 256)] from rfl) (Reps.none _ _))); intro v377 w8 ho9 hb hg_ hnew_; clear hg_ hnew_; (first | rw [← Ny376.out] at ho9 | (simp only [Int.reduceToNat] at ho9; rw [← Ny376.out] at ho9)); have HO378 := aK (Kd.R_lower ho9 (below_size bA)); replace HB := aK (below_step bA hb); clear hb ho9; have hcv10 := own_string (P := Tryz.prog) Tryz.underlying81 Tryz.underlying5 Tryz.underlying9 (Kd.own_of_R HO378.out)))
      go_roundg k2
      case measure => exact oK
      case rel => exact ⟨(wrap64 (Int.tdiv x0_2 256)), ((strOfNums y376) ++ x5_2), (wrap64 (x6_2 + 1)), gA, gA, gA, H', ⟨oK⟩, ⟨bA⟩⟩
     obtain rfl := Option.some.inj H;go_wp2;go_ret;exact ⟨eA, bA⟩
def r08_one.f (a0_0 : Int) (a0_1 : Int) (a0_2 : Int) (a0_3 : Int) : Option (Bool) := if a0_0 < 0 then (some false) else (if a0_1 < a0_0 then (some false) else (if a0_1 > 1114111 then (some false) else (if a0_3 < 0 then (some false) else (if a0_3 > 1 then (some false) else (if a0_2 < 0 then (some false) else (if a0_2 > 65535 then (some false) else (some (decide ((wrap64 (a0_2 + (wrap64 (a0_3 * (wrap64 (a0_1 - a0_0)))))) ≤ 65535)))))))))
theorem r08_one.calls (a0_0 : Int) (a0_1 : Int) (a0_2 : Int) (a0_3 : Int) (r : Bool) (w : World) (h : r08_one.f a0_0 a0_1 a0_2 a0_3 = some r) :
  Calls Tryz.prog 70 #[.agg #[.int .i64 a0_0, .int .i64 a0_1, .int .i64 a0_2, .int .i64 a0_3]] w fun e w' => e = .returned (.bool r) ∧ Below w.heap.size w w' := by
 have hu61 := Tryz.underlying61;have HB := aK (Below.refl w.heap.size w);have H : (if a0_0 < 0 then (some false) else (if a0_1 < a0_0 then (some false) else (if a0_1 > 1114111 then (some false) else (if a0_3 < 0 then (some false) else (if a0_3 > 1 then (some false) else (if a0_2 < 0 then (some false) else (if a0_2 > 65535 then (some false) else (some (decide ((wrap64 (a0_2 + (wrap64 (a0_3 * (wrap64 (a0_1 - a0_0)))))) ≤ 65535)))))))))) = some r := h;clear h;replace H := qL H;rcases H with ⟨c2b0, H⟩ | ⟨c2b0, H⟩
 ·
  obtain rfl := Option.some.inj H;go_enter Tryz.func70, Tryz.ntmps70;go_wp2_with (first | ((with_reducible refine gate_dst (N := 1) rfl ?_); refine box4 1 61 a0_0 a0_1 a0_2 a0_3 ?_; clear HB; intro gb101 w3 BK101 GW101 GE101 HB hcz4_0 hcz4_1 hcz4_2 hcz4_3 hfz4_0 hfz4_1 hfz4_2 hfz4_3))
  go_ret;exact ⟨eA, bG GE101.out⟩
 replace H := qL H;rcases H with ⟨c5b0, H⟩ | ⟨c5b0, H⟩
 ·
  obtain rfl := Option.some.inj H;go_enter Tryz.func70, Tryz.ntmps70;go_wp2_with (first | ((with_reducible refine gate_dst (N := 1) rfl ?_); refine box4 1 61 a0_0 a0_1 a0_2 a0_3 ?_; clear HB; intro gb101 w6 BK101 GW101 GE101 HB hcz7_0 hcz7_1 hcz7_2 hcz7_3 hfz7_0 hfz7_1 hfz7_2 hfz7_3))
  go_ret;exact ⟨eA, bG GE101.out⟩
 replace H := qM H;rcases H with ⟨c8b0, H⟩ | ⟨c8b0, H⟩
 ·
  obtain rfl := Option.some.inj H;go_enter Tryz.func70, Tryz.ntmps70;go_wp2_with (first | ((with_reducible refine gate_dst (N := 1) rfl ?_); refine box4 1 61 a0_0 a0_1 a0_2 a0_3 ?_; clear HB; intro gb101 w9 BK101 GW101 GE101 HB hcz10_0 hcz10_1 hcz10_2 hcz10_3 hfz10_0 hfz10_1 hfz10_2 hfz10_3))
  go_ret;exact ⟨eA, bG GE101.out⟩
 replace H := qL H;rcases H with ⟨c11b0, H⟩ | ⟨c11b0, H⟩
 ·
  obtain rfl := Option.some.inj H;go_enter Tryz.func70, Tryz.ntmps70;go_wp2_with (first | ((with_reducible refine gate_dst (N := 1) rfl ?_); refine box4 1 61 a0_0 a0_1 a0_2 a0_3 ?_; clear HB; intro gb101 w12 BK101 GW101 GE101 HB hcz13_0 hcz13_1 hcz13_2 hcz13_3 hfz13_0 hfz13_1 hfz13_2 hfz13_3))
  go_ret;exact ⟨eA, bG GE101.out⟩
 replace H := qM H;rcases H with ⟨c14b0, H⟩ | ⟨c14b0, H⟩
 ·
  obtain rfl := Option.some.inj H;go_enter Tryz.func70, Tryz.ntmps70;go_wp2_with (first | ((with_reducible refine gate_dst (N := 1) rfl ?_); refine box4 1 61 a0_0 a0_1 a0_2 a0_3 ?_; clear HB; intro gb101 w15 BK101 GW101 GE101 HB hcz16_0 hcz16_1 hcz16_2 hcz16_3 hfz16_0 hfz16_1 hfz16_2 hfz16_3))
  go_ret;exact ⟨eA, bG GE101.out⟩
 replace H := qL H;rcases H with ⟨c17b0, H⟩ | ⟨c17b0, H⟩
 ·
  obtain rfl := Option.some.inj H;go_enter Tryz.func70, Tryz.ntmps70;go_wp2_with (first | ((with_reducible refine gate_dst (N := 1) rfl ?_); refine box4 1 61 a0_0 a0_1 a0_2 a0_3 ?_; clear HB; intro gb101 w18 BK101 GW101 GE101 HB hcz19_0 hcz19_1 hcz19_2 hcz19_3 hfz19_0 hfz19_1 hfz19_2 hfz19_3))
  go_ret;exact ⟨eA, bG GE101.out⟩
 replace H := qM H;rcases H with ⟨c20b0, H⟩ | ⟨c20b0, H⟩
 ·
  obtain rfl := Option.some.inj H;go_enter Tryz.func70, Tryz.ntmps70;go_wp2_with (first | ((with_reducible refine gate_dst (N := 1) rfl ?_); refine box4 1 61 a0_0 a0_1 a0_2 a0_3 ?_; clear HB; intro gb101 w21 BK101 GW101 GE101 HB hcz22_0 hcz22_1 hcz22_2 hcz22_3 hfz22_0 hfz22_1 hfz22_2 hfz22_3))
  go_ret;exact ⟨eA, bG GE101.out⟩
 obtain rfl := Option.some.inj H;go_enter Tryz.func70, Tryz.ntmps70;go_wp2_with (first | ((with_reducible refine gate_dst (N := 1) rfl ?_); refine box4 1 61 a0_0 a0_1 a0_2 a0_3 ?_; clear HB; intro gb101 w23 BK101 GW101 GE101 HB hcz24_0 hcz24_1 hcz24_2 hcz24_3 hfz24_0 hfz24_1 hfz24_2 hfz24_3))
 go_ret;exact ⟨eA, bG GE101.out⟩
mutual
def r08_Is.l0 : Nat → List (S61) → Int → Option (Bool)
 | 0, _, _ => none
 | k + 1, x0, x3 => if x3 < (x0.length : Int) then (r08_Is.j1 k x0 x3 (decide ((x0.length : Int) ≤ 65536))) else (r08_Is.j1 k x0 x3 false)
def r08_Is.j1 : Nat → List (S61) → Int → Bool → Option (Bool)
 | 0, _, _, _ => none
 | k + 1, x0, x3, x12 => if x12 = true then (if 0 ≤ x3 then (if x3 < (x0.length : Int) then ((r08_one.f ((rd_T61 x0 x3).f0) ((rd_T61 x0 x3).f1) ((rd_T61 x0 x3).f2) ((rd_T61 x0 x3).f3)).bind fun t103 => (if t103 = true then (if x3 > 0 then (if 0 ≤ (wrap64 (x3 - 1)) then (if (wrap64 (x3 - 1)) < (x0.length : Int) then (if ((rd_T61 x0 x3).f0) ≤ ((rd_T61 x0 (wrap64 (x3 - 1))).f1) then (some false) else (r08_Is.l0 k x0 (wrap64 (x3 + 1)))) else (none)) else (none)) else (r08_Is.l0 k x0 (wrap64 (x3 + 1)))) else (some false))) else (none)) else (none)) else (some (decide ((x0.length : Int) ≤ 65536)))
end
def r08_Is.f (k : Nat) (l0 : List (S61)) : Option (Bool) := r08_Is.l0 k l0 0
def r08_Is.T4 : Bool × List (List Nat × List Nat) := (true, [([], []), ([], []), ([0, 1], [0, 1]), ([2], [2]), ([3], [3]), ([4], [4]), ([5, 4], [5]), ([6], [6]), ([7, 6], [6, 7]), ([8, 6, 6], [6, 8]), ([9], [9]), ([9], [9]), ([10, 11, 9], [9, 10, 11]), ([12, 9], [9, 12]), ([13, 9], [9, 13]), ([9], [9]), ([9], [9]), ([16, 9], [9, 16]), ([15, 17, 9], [9, 15, 17]), ([18, 9], [9, 18]), ([19, 9], [9, 19]), ([14, 20, 9], [9, 14, 20]), ([9, 21, 6], [6, 9, 21]), ([6, 22], [6, 22])])
def r08_Is.B4 : List Nat := [0, 0, 3, 7, 15, 31, 63, 127, 255, 511, 1023, 1023, 4095, 8191, 16383, 1023, 1023, 66559, 230399, 492543, 1016831, 2097151, 4194303, 8388607]
theorem r08_Is.tab4 : rtab .any (opsOf Tryz.f35 4) = r08_Is.T4 := by kernel_rfl
theorem r08_Is.bits4 : waitsOk r08_Is.T4.2 r08_Is.B4 = true := by kernel_rfl
theorem r08_Is.calls (k : Nat) (A0 : Option Addr) (c0 : Nat) (l0 : List (S61)) (r : Bool) (w : World) (hr0 : Kd.C k61 w A0 l0.length l0) (hc0 : l0.length ≤ c0) (h : r08_Is.f k l0 = some r) :
  Calls Tryz.prog 35 #[.slice A0 l0.length c0] w fun e w' => e = .returned (.bool r) ∧ Below w.heap.size w w' := by
 have hu61 := Tryz.underlying61;have HR0 := aK hr0;have HC0 := aK hc0;clear hr0 hc0;have HB := aK (Below.refl w.heap.size w);have H : (r08_Is.l0 k l0 0) = some r := h;clear h;have H' := aK H;clear H;go_enter Tryz.func35, Tryz.ntmps35;go_wp2;go_loopg [3] k (fun kq v3 w' => ∃ (x3_1 : Int), v3 = .int .i64 x3_1 ∧ Aside0 (r08_Is.l0 kq l0 x3_1 = some r) ∧ Aside0 (kq ≤ k) ∧ Aside0 (Below w.heap.size w w'))
 case atStart => exact ⟨(0), gA, H', ⟨Nat.le_refl _⟩, ⟨bA⟩⟩
 case round =>
  clear H';obtain ⟨x3_1, rfl, HA, HK1, HB⟩ := hrel;cases gk with
  | zero => exact absurd HA.out (by simp [r08_Is.l0])
  | succ k1 =>
   have H := HA.out;clear HA;simp only [r08_Is.l0] at H;have HC2 := aK H;clear H;go_upto_region 2 with (fail)
   go_cut [12] (fun v12 wc => ∃ (kq : Nat) (x12_1 : Bool), v12 = .bool x12_1 ∧ Aside0 (r08_Is.j1 kq l0 x3_1 x12_1 = some r) ∧ Aside0 (kq ≤ k1) ∧ Aside0 (Below w.heap.size w wc))
   case first =>
    have H := HC2.out;clear HC2;replace H := qL H;rcases H with ⟨c3b0, H⟩ | ⟨c3b0, H⟩
    ·
     (first | rw [c3b0] | (simp only [i64_w, i32_w]; rw [c3b0]) | skip)
     have H' := aK H;clear H;go_wp2;go_meet
     case rel => exact ⟨_, (decide ((l0.length : Int) ≤ 65536)), gA, H', ⟨oK⟩, ⟨bA⟩⟩
    (first | rw [c3b0] | (simp only [i64_w, i32_w]; rw [c3b0]) | skip)
    have H' := aK H;clear H;go_wp2;go_meet
    case rel => exact ⟨_, (false), gA, H', ⟨oK⟩, ⟨bA⟩⟩
   case rest =>
    clear HC2;obtain ⟨kq, x12_1, rfl, HA, HJ1, HB⟩ := hcut;cases kq with
    | zero => exact absurd HA.out (by simp [r08_Is.j1])
    | succ kj1 =>
     have H := HA.out;clear HA;simp only [r08_Is.j1] at H;replace H := qB H;rcases H with ⟨rfl, H⟩ | ⟨rfl, H⟩
     ·
      replace H := nL H;obtain ⟨c5b0, H⟩ := H;replace H := nL H;obtain ⟨c6b0, H⟩ := H;replace H := qS H;obtain ⟨t103, A7, H⟩ := H;replace H := qB H;rcases H with ⟨rfl, H⟩ | ⟨rfl, H⟩
      ·
       replace H := qM H;rcases H with ⟨c9b0, H⟩ | ⟨c9b0, H⟩
       ·
        obtain ⟨ji10, hji10⟩ : ∃ j_ : Int, (wrap64 (x3_1 - 1)) = j_ := ⟨_, rfl⟩;replace H : (if 0 ≤ (ji10) then (if (ji10) < (l0.length : Int) then (if ((rd_T61 l0 x3_1).f0) ≤ ((rd_T61 l0 (ji10)).f1) then (some false) else (r08_Is.l0 kj1 l0 (wrap64 (x3_1 + 1)))) else (none)) else (none)) = some r := by first | (rw [hji10] at H; exact H) | (simp only [hji10] at H ⊢; exact H)
        (try rw [hji10] at A7)
        have hji10w : (IntKind.i64.wrap (x3_1 - 1)) = ji10 := (i64_w _).trans hji10;replace H := nL H;obtain ⟨c11b0, H⟩ := H;replace H := nL H;obtain ⟨c12b0, H⟩ := H;replace H := qL H;rcases H with ⟨c13b0, H⟩ | ⟨c13b0, H⟩
        ·
         obtain rfl := Option.some.inj H;try go_wp2
         have n0_ := aK (below_drew1 HB.out);clear HB;have HB := n0_;clear n0_;have p102 : 0 ≤ (x3_1 : Int) := of_decide_eq_true sA;have q102 : x3_1 < (l0.length : Int) := of_decide_eq_true sA;obtain ⟨ad102, e102, hx102_0, hx102_1, hx102_2, hx102_3⟩ := at_T61 HR0.out x3_1 p102 q102;have hw102_3 := hx102_3;have hw102_2 := hx102_2;have hw102_1 := hx102_1;have hw102_0 := hx102_0;cases e102
         replace hx102_0 := kM HB.out hx102_0;replace hx102_1 := kM HB.out hx102_1;replace hx102_2 := kM HB.out hx102_2;replace hx102_3 := kM HB.out hx102_3;replace p102 := eq_true p102;replace q102 := eq_true q102;have p104 : 0 ≤ (x3_1 : Int) := of_decide_eq_true sA;have q104 : x3_1 < (l0.length : Int) := of_decide_eq_true sA;obtain ⟨ad104, e104, hx104_0, hx104_1, hx104_2, hx104_3⟩ := at_T61 HR0.out x3_1 p104 q104;have hw104_3 := hx104_3;have hw104_2 := hx104_2;have hw104_1 := hx104_1;have hw104_0 := hx104_0;obtain rfl : ad102 = ad104 := (by injection e104);replace hx104_0 := kM HB.out hx104_0;replace hx104_1 := kM HB.out hx104_1;replace hx104_2 := kM HB.out hx104_2;replace hx104_3 := kM HB.out hx104_3;replace p104 := eq_true p104;replace q104 := eq_true q104;have p105 : 0 ≤ ((ji10) : Int) := of_decide_eq_true sA;have q105 : (ji10) < (l0.length : Int) := of_decide_eq_true sA;obtain ⟨ad105, e105, hx105_0, hx105_1, hx105_2, hx105_3⟩ := at_T61 HR0.out (ji10) p105 q105;have hw105_3 := hx105_3;have hw105_2 := hx105_2;have hw105_1 := hx105_1;have hw105_0 := hx105_0;obtain rfl : ad102 = ad105 := (by injection e105);replace hx105_0 := kM HB.out hx105_0;replace hx105_1 := kM HB.out hx105_1;replace hx105_2 := kM HB.out hx105_2;replace hx105_3 := kM HB.out hx105_3;replace p105 := eq_true p105;replace q105 := eq_true q105;refine bg_ 24 (fun w' => w'.cell? (ad102.add ((x3_1).toNat * 4)) = some (.int .i64 ((rd_T61 l0 x3_1).f0)) ∧ w'.cell? ⟨(ad102.add ((x3_1).toNat * 4)).block, (ad102.add ((x3_1).toNat * 4)).off + 1, none⟩ = some (.int .i64 ((rd_T61 l0 x3_1).f1)) ∧ w'.cell? ⟨(ad102.add ((x3_1).toNat * 4)).block, (ad102.add ((x3_1).toNat * 4)).off + 2, none⟩ = some (.int .i64 ((rd_T61 l0 x3_1).f2)) ∧ w'.cell? ⟨(ad102.add ((x3_1).toNat * 4)).block, (ad102.add ((x3_1).toNat * 4)).off + 3, none⟩ = some (.int .i64 ((rd_T61 l0 x3_1).f3)) ∧ w'.cell? (ad102.add ((x3_1).toNat * 4)) = some (.int .i64 ((rd_T61 l0 x3_1).f0)) ∧ w'.cell? ⟨(ad102.add ((x3_1).toNat * 4)).block, (ad102.add ((x3_1).toNat * 4)).off + 1, none⟩ = some (.int .i64 ((rd_T61 l0 x3_1).f1)) ∧ w'.cell? ⟨(ad102.add ((x3_1).toNat * 4)).block, (ad102.add ((x3_1).toNat * 4)).off + 2, none⟩ = some (.int .i64 ((rd_T61 l0 x3_1).f2)) ∧ w'.cell? ⟨(ad102.add ((x3_1).toNat * 4)).block, (ad102.add ((x3_1).toNat * 4)).off + 3, none⟩ = some (.int .i64 ((rd_T61 l0 x3_1).f3)) ∧ w'.cell? (ad102.add (((ji10)).toNat * 4)) = some (.int .i64 ((rd_T61 l0 (ji10)).f0)) ∧ w'.cell? ⟨(ad102.add (((ji10)).toNat * 4)).block, (ad102.add (((ji10)).toNat * 4)).off + 1, none⟩ = some (.int .i64 ((rd_T61 l0 (ji10)).f1)) ∧ w'.cell? ⟨(ad102.add (((ji10)).toNat * 4)).block, (ad102.add (((ji10)).toNat * 4)).off + 2, none⟩ = some (.int .i64 ((rd_T61 l0 (ji10)).f2)) ∧ w'.cell? ⟨(ad102.add (((ji10)).toNat * 4)).block, (ad102.add (((ji10)).toNat * 4)).off + 3, none⟩ = some (.int .i64 ((rd_T61 l0 (ji10)).f3))) ⟨(kM HB.out hw102_0), (kM HB.out hw102_1), (kM HB.out hw102_2), (kM HB.out hw102_3), (kM HB.out hw104_0), (kM HB.out hw104_1), (kM HB.out hw104_2), (kM HB.out hw104_3), (kM HB.out hw105_0), (kM HB.out hw105_1), (kM HB.out hw105_2), (kM HB.out hw105_3)⟩ (fun hHeld => ?_); refine with_tabW r08_Is.tab4 r08_Is.bits4 (fun HT_ HW_ => ?_);generalize wc.drew = w14 at HB hx102_0 hx102_1 hx102_2 hx102_3 hx104_0 hx104_1 hx104_2 hx104_3 hx105_0 hx105_1 hx105_2 hx105_3 hHeld ⊢
         refine pT_ HT_.out 0 15 ?_;refine pT_ HT_.out 1 16 ?_;refine pT_ HT_.out 2 17 ?_;refine tW_ HT_.out HW_.out 3 18 hHeld ?_;refine oT_ 4 19 HT_.out (fun K hK => ?_);refine goes_ Tryz.func70 (by kernel_rfl) rfl #[.agg #[.int .i64 ((rd_T61 l0 x3_1).f0), .int .i64 ((rd_T61 l0 x3_1).f1), .int .i64 ((rd_T61 l0 x3_1).f2), .int .i64 ((rd_T61 l0 x3_1).f3)]] (by rfl) rfl rfl aA ?_;with_reducible refine (r08_one.calls ((rd_T61 l0 x3_1).f0) ((rd_T61 l0 x3_1).f1) ((rd_T61 l0 x3_1).f2) ((rd_T61 l0 x3_1).f3) true _ A7.out).mono ?_
         rintro e w15 ⟨rfl, hb⟩;refine ⟨_, rfl, ?_⟩;have n0_ := aK (below_step bA hb);clear HB;have HB := n0_;clear n0_
         (try clear hb)
         refine hK.out _ _ ⟨(kM HB.out hw102_0), (kM HB.out hw102_1), (kM HB.out hw102_2), (kM HB.out hw102_3), (kM HB.out hw104_0), (kM HB.out hw104_1), (kM HB.out hw104_2), (kM HB.out hw104_3), (kM HB.out hw105_0), (kM HB.out hw105_1), (kM HB.out hw105_2), (kM HB.out hw105_3)⟩ (fun hHeld => ?_);clear hK K;refine nS_ ?_;refine pT_ HT_.out 5 20 ?_;refine pT_ HT_.out 6 21 ?_;refine pT_ HT_.out 7 22 ?_;refine pT_ HT_.out 8 23 ?_;refine pT_ HT_.out 9 24 ?_;refine pT_ HT_.out 10 25 ?_;refine pT_ HT_.out 11 26 ?_;refine pT_ HT_.out 12 27 ?_;refine pT_ HT_.out 13 28 ?_;refine pT_ HT_.out 15 30 ?_;refine pT_ HT_.out 16 31 ?_;refine pT_ HT_.out 17 32 ?_;refine pT_ HT_.out 18 33 ?_;refine pT_ HT_.out 19 34 ?_;refine tW_ HT_.out HW_.out 14 29 hHeld ?_;refine tW_ HT_.out HW_.out 20 35 hHeld ?_;refine pT_ HT_.out 21 36 ?_;refine pT_ HT_.out 22 37 ?_;refine pT_ HT_.out 23 38 ?_;refine done_ (done_of HT_.out (by kernel_rfl)) ?_;try go_wp2
         go_ret;exact ⟨by first | rfl | (simp [errW_none, errW_some] <;> rfl) | (simp only [← hji10]; first | rfl | (simp [errW_none, errW_some] <;> rfl)) | (simp [*, errW_none, errW_some] <;> rfl), bA⟩
        have H' := aK H;clear H;try go_wp2
        have n0_ := aK (below_drew1 HB.out);clear HB;have HB := n0_;clear n0_;have p102 : 0 ≤ (x3_1 : Int) := of_decide_eq_true sA;have q102 : x3_1 < (l0.length : Int) := of_decide_eq_true sA;obtain ⟨ad102, e102, hx102_0, hx102_1, hx102_2, hx102_3⟩ := at_T61 HR0.out x3_1 p102 q102;have hw102_3 := hx102_3;have hw102_2 := hx102_2;have hw102_1 := hx102_1;have hw102_0 := hx102_0;cases e102
        replace hx102_0 := kM HB.out hx102_0;replace hx102_1 := kM HB.out hx102_1;replace hx102_2 := kM HB.out hx102_2;replace hx102_3 := kM HB.out hx102_3;replace p102 := eq_true p102;replace q102 := eq_true q102;have p104 : 0 ≤ (x3_1 : Int) := of_decide_eq_true sA;have q104 : x3_1 < (l0.length : Int) := of_decide_eq_true sA;obtain ⟨ad104, e104, hx104_0, hx104_1, hx104_2, hx104_3⟩ := at_T61 HR0.out x3_1 p104 q104;have hw104_3 := hx104_3;have hw104_2 := hx104_2;have hw104_1 := hx104_1;have hw104_0 := hx104_0;obtain rfl : ad102 = ad104 := (by injection e104);replace hx104_0 := kM HB.out hx104_0;replace hx104_1 := kM HB.out hx104_1;replace hx104_2 := kM HB.out hx104_2;replace hx104_3 := kM HB.out hx104_3;replace p104 := eq_true p104;replace q104 := eq_true q104;have p105 : 0 ≤ ((ji10) : Int) := of_decide_eq_true sA;have q105 : (ji10) < (l0.length : Int) := of_decide_eq_true sA;obtain ⟨ad105, e105, hx105_0, hx105_1, hx105_2, hx105_3⟩ := at_T61 HR0.out (ji10) p105 q105;have hw105_3 := hx105_3;have hw105_2 := hx105_2;have hw105_1 := hx105_1;have hw105_0 := hx105_0;obtain rfl : ad102 = ad105 := (by injection e105);replace hx105_0 := kM HB.out hx105_0;replace hx105_1 := kM HB.out hx105_1;replace hx105_2 := kM HB.out hx105_2;replace hx105_3 := kM HB.out hx105_3;replace p105 := eq_true p105;replace q105 := eq_true q105;refine bg_ 24 (fun w' => w'.cell? (ad102.add ((x3_1).toNat * 4)) = some (.int .i64 ((rd_T61 l0 x3_1).f0)) ∧ w'.cell? ⟨(ad102.add ((x3_1).toNat * 4)).block, (ad102.add ((x3_1).toNat * 4)).off + 1, none⟩ = some (.int .i64 ((rd_T61 l0 x3_1).f1)) ∧ w'.cell? ⟨(ad102.add ((x3_1).toNat * 4)).block, (ad102.add ((x3_1).toNat * 4)).off + 2, none⟩ = some (.int .i64 ((rd_T61 l0 x3_1).f2)) ∧ w'.cell? ⟨(ad102.add ((x3_1).toNat * 4)).block, (ad102.add ((x3_1).toNat * 4)).off + 3, none⟩ = some (.int .i64 ((rd_T61 l0 x3_1).f3)) ∧ w'.cell? (ad102.add ((x3_1).toNat * 4)) = some (.int .i64 ((rd_T61 l0 x3_1).f0)) ∧ w'.cell? ⟨(ad102.add ((x3_1).toNat * 4)).block, (ad102.add ((x3_1).toNat * 4)).off + 1, none⟩ = some (.int .i64 ((rd_T61 l0 x3_1).f1)) ∧ w'.cell? ⟨(ad102.add ((x3_1).toNat * 4)).block, (ad102.add ((x3_1).toNat * 4)).off + 2, none⟩ = some (.int .i64 ((rd_T61 l0 x3_1).f2)) ∧ w'.cell? ⟨(ad102.add ((x3_1).toNat * 4)).block, (ad102.add ((x3_1).toNat * 4)).off + 3, none⟩ = some (.int .i64 ((rd_T61 l0 x3_1).f3)) ∧ w'.cell? (ad102.add (((ji10)).toNat * 4)) = some (.int .i64 ((rd_T61 l0 (ji10)).f0)) ∧ w'.cell? ⟨(ad102.add (((ji10)).toNat * 4)).block, (ad102.add (((ji10)).toNat * 4)).off + 1, none⟩ = some (.int .i64 ((rd_T61 l0 (ji10)).f1)) ∧ w'.cell? ⟨(ad102.add (((ji10)).toNat * 4)).block, (ad102.add (((ji10)).toNat * 4)).off + 2, none⟩ = some (.int .i64 ((rd_T61 l0 (ji10)).f2)) ∧ w'.cell? ⟨(ad102.add (((ji10)).toNat * 4)).block, (ad102.add (((ji10)).toNat * 4)).off + 3, none⟩ = some (.int .i64 ((rd_T61 l0 (ji10)).f3))) ⟨(kM HB.out hw102_0), (kM HB.out hw102_1), (kM HB.out hw102_2), (kM HB.out hw102_3), (kM HB.out hw104_0), (kM HB.out hw104_1), (kM HB.out hw104_2), (kM HB.out hw104_3), (kM HB.out hw105_0), (kM HB.out hw105_1), (kM HB.out hw105_2), (kM HB.out hw105_3)⟩ (fun hHeld => ?_); refine with_tabW r08_Is.tab4 r08_Is.bits4 (fun HT_ HW_ => ?_);generalize wc.drew = w16 at HB hx102_0 hx102_1 hx102_2 hx102_3 hx104_0 hx104_1 hx104_2 hx104_3 hx105_0 hx105_1 hx105_2 hx105_3 hHeld ⊢
        refine pT_ HT_.out 0 15 ?_;refine pT_ HT_.out 1 16 ?_;refine pT_ HT_.out 2 17 ?_;refine tW_ HT_.out HW_.out 3 18 hHeld ?_;refine oT_ 4 19 HT_.out (fun K hK => ?_);refine goes_ Tryz.func70 (by kernel_rfl) rfl #[.agg #[.int .i64 ((rd_T61 l0 x3_1).f0), .int .i64 ((rd_T61 l0 x3_1).f1), .int .i64 ((rd_T61 l0 x3_1).f2), .int .i64 ((rd_T61 l0 x3_1).f3)]] (by rfl) rfl rfl aA ?_;with_reducible refine (r08_one.calls ((rd_T61 l0 x3_1).f0) ((rd_T61 l0 x3_1).f1) ((rd_T61 l0 x3_1).f2) ((rd_T61 l0 x3_1).f3) true _ A7.out).mono ?_
        rintro e w17 ⟨rfl, hb⟩;refine ⟨_, rfl, ?_⟩;have n0_ := aK (below_step bA hb);clear HB;have HB := n0_;clear n0_
        (try clear hb)
        refine hK.out _ _ ⟨(kM HB.out hw102_0), (kM HB.out hw102_1), (kM HB.out hw102_2), (kM HB.out hw102_3), (kM HB.out hw104_0), (kM HB.out hw104_1), (kM HB.out hw104_2), (kM HB.out hw104_3), (kM HB.out hw105_0), (kM HB.out hw105_1), (kM HB.out hw105_2), (kM HB.out hw105_3)⟩ (fun hHeld => ?_);clear hK K;refine nS_ ?_;refine pT_ HT_.out 5 20 ?_;refine pT_ HT_.out 6 21 ?_;refine pT_ HT_.out 7 22 ?_;refine pT_ HT_.out 8 23 ?_;refine pT_ HT_.out 9 24 ?_;refine pT_ HT_.out 10 25 ?_;refine pT_ HT_.out 11 26 ?_;refine pT_ HT_.out 12 27 ?_;refine pT_ HT_.out 13 28 ?_;refine pT_ HT_.out 15 30 ?_;refine pT_ HT_.out 16 31 ?_;refine pT_ HT_.out 17 32 ?_;refine pT_ HT_.out 18 33 ?_;refine pT_ HT_.out 19 34 ?_;refine tW_ HT_.out HW_.out 14 29 hHeld ?_;refine tW_ HT_.out HW_.out 20 35 hHeld ?_;refine pT_ HT_.out 21 36 ?_;refine pT_ HT_.out 22 37 ?_;refine pT_ HT_.out 23 38 ?_;refine done_ (done_of HT_.out (by kernel_rfl)) ?_;try go_wp2
        go_roundg kj1
        case measure => exact oK
        case rel => exact ⟨(wrap64 (x3_1 + 1)), gA, H', ⟨oK⟩, ⟨bA⟩⟩
       have H' := aK H;clear H;try go_wp2
       have n0_ := aK (below_drew1 HB.out);clear HB;have HB := n0_;clear n0_;have p102 : 0 ≤ (x3_1 : Int) := of_decide_eq_true sA;have q102 : x3_1 < (l0.length : Int) := of_decide_eq_true sA;obtain ⟨ad102, e102, hx102_0, hx102_1, hx102_2, hx102_3⟩ := at_T61 HR0.out x3_1 p102 q102;have hw102_3 := hx102_3;have hw102_2 := hx102_2;have hw102_1 := hx102_1;have hw102_0 := hx102_0;cases e102
       replace hx102_0 := kM HB.out hx102_0;replace hx102_1 := kM HB.out hx102_1;replace hx102_2 := kM HB.out hx102_2;replace hx102_3 := kM HB.out hx102_3;replace p102 := eq_true p102;replace q102 := eq_true q102;refine bg_ 24 (fun w' => w'.cell? (ad102.add ((x3_1).toNat * 4)) = some (.int .i64 ((rd_T61 l0 x3_1).f0)) ∧ w'.cell? ⟨(ad102.add ((x3_1).toNat * 4)).block, (ad102.add ((x3_1).toNat * 4)).off + 1, none⟩ = some (.int .i64 ((rd_T61 l0 x3_1).f1)) ∧ w'.cell? ⟨(ad102.add ((x3_1).toNat * 4)).block, (ad102.add ((x3_1).toNat * 4)).off + 2, none⟩ = some (.int .i64 ((rd_T61 l0 x3_1).f2)) ∧ w'.cell? ⟨(ad102.add ((x3_1).toNat * 4)).block, (ad102.add ((x3_1).toNat * 4)).off + 3, none⟩ = some (.int .i64 ((rd_T61 l0 x3_1).f3))) ⟨(kM HB.out hw102_0), (kM HB.out hw102_1), (kM HB.out hw102_2), (kM HB.out hw102_3)⟩ (fun hHeld => ?_); refine with_tabW r08_Is.tab4 r08_Is.bits4 (fun HT_ HW_ => ?_);generalize wc.drew = w18 at HB hx102_0 hx102_1 hx102_2 hx102_3 hHeld ⊢
       refine pT_ HT_.out 0 15 ?_;refine pT_ HT_.out 1 16 ?_;refine pT_ HT_.out 2 17 ?_;refine tW_ HT_.out HW_.out 3 18 hHeld ?_;refine oT_ 4 19 HT_.out (fun K hK => ?_);refine goes_ Tryz.func70 (by kernel_rfl) rfl #[.agg #[.int .i64 ((rd_T61 l0 x3_1).f0), .int .i64 ((rd_T61 l0 x3_1).f1), .int .i64 ((rd_T61 l0 x3_1).f2), .int .i64 ((rd_T61 l0 x3_1).f3)]] (by rfl) rfl rfl aA ?_;with_reducible refine (r08_one.calls ((rd_T61 l0 x3_1).f0) ((rd_T61 l0 x3_1).f1) ((rd_T61 l0 x3_1).f2) ((rd_T61 l0 x3_1).f3) true _ A7.out).mono ?_
       rintro e w19 ⟨rfl, hb⟩;refine ⟨_, rfl, ?_⟩;have n0_ := aK (below_step bA hb);clear HB;have HB := n0_;clear n0_
       (try clear hb)
       refine hK.out _ _ ⟨(kM HB.out hw102_0), (kM HB.out hw102_1), (kM HB.out hw102_2), (kM HB.out hw102_3)⟩ (fun hHeld => ?_);clear hK K;refine nS_ ?_;refine pT_ HT_.out 5 20 ?_;refine pT_ HT_.out 6 21 ?_;refine pT_ HT_.out 7 22 ?_;refine pT_ HT_.out 8 23 ?_;refine pT_ HT_.out 9 24 ?_;refine pV_ HT_.out 10 25 ?_;refine pV_ HT_.out 11 26 ?_;refine pV_ HT_.out 12 27 ?_;refine pV_ HT_.out 13 28 ?_;refine pV_ HT_.out 14 29 ?_;refine pV_ HT_.out 15 30 ?_;refine pV_ HT_.out 16 31 ?_;refine pV_ HT_.out 17 32 ?_;refine pV_ HT_.out 18 33 ?_;refine pV_ HT_.out 19 34 ?_;refine pV_ HT_.out 20 35 ?_;refine pV_ HT_.out 21 36 ?_;refine pT_ HT_.out 22 37 ?_;refine pT_ HT_.out 23 38 ?_;refine done_ (done_of HT_.out (by kernel_rfl)) ?_;try go_wp2
       go_roundg kj1
       case measure => exact oK
       case rel => exact ⟨(wrap64 (x3_1 + 1)), gA, H', ⟨oK⟩, ⟨bA⟩⟩
      obtain rfl := Option.some.inj H;try go_wp2
      have n0_ := aK (below_drew1 HB.out);clear HB;have HB := n0_;clear n0_;have p102 : 0 ≤ (x3_1 : Int) := of_decide_eq_true sA;have q102 : x3_1 < (l0.length : Int) := of_decide_eq_true sA;obtain ⟨ad102, e102, hx102_0, hx102_1, hx102_2, hx102_3⟩ := at_T61 HR0.out x3_1 p102 q102;have hw102_3 := hx102_3;have hw102_2 := hx102_2;have hw102_1 := hx102_1;have hw102_0 := hx102_0;cases e102
      replace hx102_0 := kM HB.out hx102_0;replace hx102_1 := kM HB.out hx102_1;replace hx102_2 := kM HB.out hx102_2;replace hx102_3 := kM HB.out hx102_3;replace p102 := eq_true p102;replace q102 := eq_true q102;refine bg_ 24 (fun w' => w'.cell? (ad102.add ((x3_1).toNat * 4)) = some (.int .i64 ((rd_T61 l0 x3_1).f0)) ∧ w'.cell? ⟨(ad102.add ((x3_1).toNat * 4)).block, (ad102.add ((x3_1).toNat * 4)).off + 1, none⟩ = some (.int .i64 ((rd_T61 l0 x3_1).f1)) ∧ w'.cell? ⟨(ad102.add ((x3_1).toNat * 4)).block, (ad102.add ((x3_1).toNat * 4)).off + 2, none⟩ = some (.int .i64 ((rd_T61 l0 x3_1).f2)) ∧ w'.cell? ⟨(ad102.add ((x3_1).toNat * 4)).block, (ad102.add ((x3_1).toNat * 4)).off + 3, none⟩ = some (.int .i64 ((rd_T61 l0 x3_1).f3))) ⟨(kM HB.out hw102_0), (kM HB.out hw102_1), (kM HB.out hw102_2), (kM HB.out hw102_3)⟩ (fun hHeld => ?_); refine with_tabW r08_Is.tab4 r08_Is.bits4 (fun HT_ HW_ => ?_);generalize wc.drew = w20 at HB hx102_0 hx102_1 hx102_2 hx102_3 hHeld ⊢
      refine pT_ HT_.out 0 15 ?_;refine pT_ HT_.out 1 16 ?_;refine pT_ HT_.out 2 17 ?_;refine tW_ HT_.out HW_.out 3 18 hHeld ?_;refine oT_ 4 19 HT_.out (fun K hK => ?_);refine goes_ Tryz.func70 (by kernel_rfl) rfl #[.agg #[.int .i64 ((rd_T61 l0 x3_1).f0), .int .i64 ((rd_T61 l0 x3_1).f1), .int .i64 ((rd_T61 l0 x3_1).f2), .int .i64 ((rd_T61 l0 x3_1).f3)]] (by rfl) rfl rfl aA ?_;with_reducible refine (r08_one.calls ((rd_T61 l0 x3_1).f0) ((rd_T61 l0 x3_1).f1) ((rd_T61 l0 x3_1).f2) ((rd_T61 l0 x3_1).f3) false _ A7.out).mono ?_
      rintro e w21 ⟨rfl, hb⟩;refine ⟨_, rfl, ?_⟩;have n0_ := aK (below_step bA hb);clear HB;have HB := n0_;clear n0_
      (try clear hb)
      refine hK.out _ _ ⟨(kM HB.out hw102_0), (kM HB.out hw102_1), (kM HB.out hw102_2), (kM HB.out hw102_3)⟩ (fun hHeld => ?_);clear hK K;refine nS_ ?_;refine pT_ HT_.out 5 20 ?_;refine pT_ HT_.out 6 21 ?_;refine pV_ HT_.out 7 22 ?_;refine pV_ HT_.out 8 23 ?_;refine pV_ HT_.out 9 24 ?_;refine pV_ HT_.out 10 25 ?_;refine pV_ HT_.out 11 26 ?_;refine pV_ HT_.out 12 27 ?_;refine pV_ HT_.out 13 28 ?_;refine pV_ HT_.out 14 29 ?_;refine pV_ HT_.out 15 30 ?_;refine pV_ HT_.out 16 31 ?_;refine pV_ HT_.out 17 32 ?_;refine pV_ HT_.out 18 33 ?_;refine pV_ HT_.out 19 34 ?_;refine pV_ HT_.out 20 35 ?_;refine pV_ HT_.out 21 36 ?_;refine pV_ HT_.out 22 37 ?_;refine pT_ HT_.out 23 38 ?_;refine done_ (done_of HT_.out (by kernel_rfl)) ?_;try go_wp2
      go_ret;exact ⟨eA, bA⟩
     obtain rfl := Option.some.inj H;go_wp2;go_ret;exact ⟨eA, bA⟩
mutual
def r08_ends.l0 : Nat → List (S61) → Int → Int → Int → Option (Int × Int × Bool)
 | 0, _, _, _, _ => none
 | k + 1, x0, x5, x6, x7 => if x7 < (x0.length : Int) then (if 0 ≤ x7 then (if ((rd_T61 x0 x7).f2) = 0 then (r08_ends.j1 k x0 x5 x6 x7 (wrap64 (((rd_T61 x0 x7).f0) + 1))) else (r08_ends.j1 k x0 x5 x6 x7 ((rd_T61 x0 x7).f0))) else (none)) else (some (x5, x6, decide (x5 ≥ 0)))
def r08_ends.j1 : Nat → List (S61) → Int → Int → Int → Int → Option (Int × Int × Bool)
 | 0, _, _, _, _, _ => none
 | k + 1, x0, x5, x6, x7, x8 => if 0 ≤ x7 then (if x7 < (x0.length : Int) then (if ((rd_T61 x0 x7).f2) = 0 then (if ((rd_T61 x0 x7).f3) = 0 then (r08_ends.j2 k x0 x5 x6 x7 x8 true) else (r08_ends.j2 k x0 x5 x6 x7 x8 (decide (x8 > ((rd_T61 x0 x7).f1))))) else (r08_ends.j2 k x0 x5 x6 x7 x8 (decide (x8 > ((rd_T61 x0 x7).f1))))) else (none)) else (none)
def r08_ends.j2 : Nat → List (S61) → Int → Int → Int → Int → Bool → Option (Int × Int × Bool)
 | 0, _, _, _, _, _, _ => none
 | k + 1, x0, x5, x6, x7, x8, x50 => if x50 = true then (r08_ends.l0 k x0 x5 x6 (wrap64 (x7 + 1))) else (if x5 < 0 then (if 0 ≤ x7 then (if x7 < (x0.length : Int) then (r08_ends.l0 k x0 x8 ((rd_T61 x0 x7).f1) (wrap64 (x7 + 1))) else (none)) else (none)) else (if 0 ≤ x7 then (if x7 < (x0.length : Int) then (r08_ends.l0 k x0 x5 ((rd_T61 x0 x7).f1) (wrap64 (x7 + 1))) else (none)) else (none)))
end
def r08_ends.f (k : Nat) (l0 : List (S61)) : Option (Int × Int × Bool) := r08_ends.l0 k l0 (-1) (-1) 0
theorem r08_ends.calls (k : Nat) (A0 : Option Addr) (c0 : Nat) (l0 : List (S61)) (r1 : Int) (r2 : Int) (r3 : Bool) (w : World) (hr0 : Kd.C k61 w A0 l0.length l0) (hc0 : l0.length ≤ c0) (h : r08_ends.f k l0 = some (r1, r2, r3)) :
  Calls Tryz.prog 39 #[.slice A0 l0.length c0] w fun e w' => e = .returned (.tuple #[.int .i64 r1, .int .i64 r2, .bool r3]) ∧ Drawn0 w w' := by
 have HR0 := aK hr0;have HC0 := aK hc0;clear hr0 hc0;have H : (r08_ends.l0 k l0 (-1) (-1) 0) = some (r1, r2, r3) := h;clear h;have H' := aK H;clear H;go_enter Tryz.func39, Tryz.ntmps39;go_wp2;go_loopg [5, 6, 7] k (fun kq v5 v6 v7 w' => ∃ (x5_1 : Int) (x6_1 : Int) (x7_1 : Int), v5 = .int .i64 x5_1 ∧ v6 = .int .i64 x6_1 ∧ v7 = .int .i64 x7_1 ∧ Aside0 (r08_ends.l0 kq l0 x5_1 x6_1 x7_1 = some (r1, r2, r3)) ∧ Aside0 (kq ≤ k) ∧ Drawn0 w w')
 case atStart => exact ⟨((-1)), ((-1)), (0), gA, gA, gA, H', ⟨Nat.le_refl _⟩, by repeat (first | exact Drawn0.refl _ | apply Drawn0.step)⟩
 case round =>
  clear H';obtain ⟨x5_1, x6_1, x7_1, rfl, rfl, rfl, HA, HK1, ⟨m1, rfl⟩⟩ := hrel;cases gk with
  | zero => exact absurd HA.out (by simp [r08_ends.l0])
  | succ k1 =>
   have H := HA.out;clear HA;simp only [r08_ends.l0] at H;replace H := qL H;rcases H with ⟨c2b0, H⟩ | ⟨c2b0, H⟩
   ·
    replace H := nL H;obtain ⟨c3b0, H⟩ := H;have HC4 := aK H;clear H;obtain ⟨p106, q106, ad106, e106, hx106_0, hx106_1, hx106_2, hx106_3⟩ := aT (at_T61 HR0.out x7_1);cases e106
    obtain ⟨p107, q107, ad107, e107, hx107_0, hx107_1, hx107_2, hx107_3⟩ := aT (at_T61 HR0.out x7_1);obtain rfl : ad106 = ad107 := (by injection e107);go_upto_if 25 with (fail)
    go_cut [8] (fun v8 wc => ∃ (kq : Nat) (x8_3 : Int), v8 = .int .i64 x8_3 ∧ Aside0 (r08_ends.j1 kq l0 x5_1 x6_1 x7_1 x8_3 = some (r1, r2, r3)) ∧ Aside0 (kq ≤ k1) ∧ Drawn0 w wc)
    case first =>
     have H := HC4.out;clear HC4;replace H := qF H;rcases H with ⟨c5b0, c5b1, H⟩ | ⟨c5b0, c5b1, H⟩
     ·
      (first | rw [c5b0] | (simp only [i64_w, i32_w]; rw [c5b0]) | skip)
      have H' := aK H;clear H;go_wp2;go_meet
      case rel => exact ⟨_, (wrap64 (((rd_T61 l0 x7_1).f0) + 1)), gA, H', ⟨oK⟩, by repeat (first | exact Drawn0.refl _ | apply Drawn0.step)⟩
     (first | rw [c5b0] | (simp only [i64_w, i32_w]; rw [c5b0]) | skip)
     have H' := aK H;clear H;go_wp2;go_meet
     case rel => exact ⟨_, ((rd_T61 l0 x7_1).f0), gA, H', ⟨oK⟩, by repeat (first | exact Drawn0.refl _ | apply Drawn0.step)⟩
    case rest =>
     clear HC4;try clear q1 hx1 hx106_0 hx106_1 hx106_2 hx106_3 hx107_0 hx107_1 hx107_2 hx107_3 q106 q107
     obtain ⟨kq, x8_3, rfl, HA, HJ3, ⟨mc3, rfl⟩⟩ := hcut;cases kq with
     | zero => exact absurd HA.out (by simp [r08_ends.j1])
     | succ kj3 =>
      have H := HA.out;clear HA;simp only [r08_ends.j1] at H;have HC6 := aK H;clear H;go_upto_region 9 with (fail)
      go_cut [50] (fun v50 wc => ∃ (kq : Nat) (x50_5 : Bool), v50 = .bool x50_5 ∧ Aside0 (r08_ends.j2 kq l0 x5_1 x6_1 x7_1 x8_3 x50_5 = some (r1, r2, r3)) ∧ Aside0 (kq ≤ kj3) ∧ Drawn0 w wc)
      case first =>
       have H := HC6.out;clear HC6;replace H := nL H;obtain ⟨c7b0, H⟩ := H
       (first | rw [c7b0] | (simp only [i64_w, i32_w]; rw [c7b0]) | skip)
       replace H := nL H;obtain ⟨c8b0, H⟩ := H;replace H := qF H;rcases H with ⟨c9b0, c9b1, H⟩ | ⟨c9b0, c9b1, H⟩
       ·
        replace H := qF H;rcases H with ⟨c10b0, c10b1, H⟩ | ⟨c10b0, c10b1, H⟩
        ·
         have H' := aK H;clear H;obtain ⟨p108, q108, ad108, e108, hx108_0, hx108_1, hx108_2, hx108_3⟩ := aT (at_T61 HR0.out x7_1);obtain rfl : ad106 = ad108 := (by injection e108);obtain ⟨p109, q109, ad109, e109, hx109_0, hx109_1, hx109_2, hx109_3⟩ := aT (at_T61 HR0.out x7_1);obtain rfl : ad106 = ad109 := (by injection e109);go_wp2;go_meet
         case rel => exact ⟨_, (true), gA, H', ⟨oK⟩, by repeat (first | exact Drawn0.refl _ | apply Drawn0.step)⟩
        have H' := aK H;clear H;obtain ⟨p108, q108, ad108, e108, hx108_0, hx108_1, hx108_2, hx108_3⟩ := aT (at_T61 HR0.out x7_1);obtain rfl : ad106 = ad108 := (by injection e108);obtain ⟨p109, q109, ad109, e109, hx109_0, hx109_1, hx109_2, hx109_3⟩ := aT (at_T61 HR0.out x7_1);obtain rfl : ad106 = ad109 := (by injection e109);obtain ⟨p110, q110, ad110, e110, hx110_0, hx110_1, hx110_2, hx110_3⟩ := aT (at_T61 HR0.out x7_1);obtain rfl : ad106 = ad110 := (by injection e110);go_wp2;go_meet
        case rel => exact ⟨_, (decide (x8_3 > ((rd_T61 l0 x7_1).f1))), gA, H', ⟨oK⟩, by repeat (first | exact Drawn0.refl _ | apply Drawn0.step)⟩
       have H' := aK H;clear H;obtain ⟨p108, q108, ad108, e108, hx108_0, hx108_1, hx108_2, hx108_3⟩ := aT (at_T61 HR0.out x7_1);obtain rfl : ad106 = ad108 := (by injection e108);obtain ⟨p111, q111, ad111, e111, hx111_0, hx111_1, hx111_2, hx111_3⟩ := aT (at_T61 HR0.out x7_1);obtain rfl : ad106 = ad111 := (by injection e111);go_wp2;go_meet
       case rel => exact ⟨_, (decide (x8_3 > ((rd_T61 l0 x7_1).f1))), gA, H', ⟨oK⟩, by repeat (first | exact Drawn0.refl _ | apply Drawn0.step)⟩
      case rest =>
       clear HC6;try clear q1 hx1 q10 hx10 hx106_0 hx106_1 hx106_2 hx106_3 hx107_0 hx107_1 hx107_2 hx107_3 hx108_0 hx108_1 hx108_2 hx108_3 hx109_0 hx109_1 hx109_2 hx109_3 hx110_0 hx110_1 hx110_2 hx110_3 hx111_0 hx111_1 hx111_2 hx111_3 q1 q106 q107 q108 q109 q110 q111
       obtain ⟨kq, x50_5, rfl, HA, HJ5, ⟨mc5, rfl⟩⟩ := hcut;cases kq with
       | zero => exact absurd HA.out (by simp [r08_ends.j2])
       | succ kj5 =>
        have H := HA.out;clear HA;simp only [r08_ends.j2] at H;replace H := qB H;rcases H with ⟨rfl, H⟩ | ⟨rfl, H⟩
        ·
         have H' := aK H;clear H;go_wp2;go_roundg kj5
         case measure => exact oK
         case rel => exact ⟨(x5_1), (x6_1), (wrap64 (x7_1 + 1)), gA, gA, gA, H', ⟨oK⟩, by repeat (first | exact Drawn0.refl _ | apply Drawn0.step)⟩
        replace H := qL H;rcases H with ⟨c12b0, H⟩ | ⟨c12b0, H⟩
        ·
         replace H := nL H;obtain ⟨c13b0, H⟩ := H;replace H := nL H;obtain ⟨c14b0, H⟩ := H;have H' := aK H;clear H;obtain ⟨p112, q112, ad112, e112, hx112_0, hx112_1, hx112_2, hx112_3⟩ := aT (at_T61 HR0.out x7_1);obtain rfl : ad106 = ad112 := (by injection e112);go_wp2;go_roundg kj5
         case measure => exact oK
         case rel => exact ⟨(x8_3), ((rd_T61 l0 x7_1).f1), (wrap64 (x7_1 + 1)), gA, gA, gA, H', ⟨oK⟩, by repeat (first | exact Drawn0.refl _ | apply Drawn0.step)⟩
        replace H := nL H;obtain ⟨c15b0, H⟩ := H;replace H := nL H;obtain ⟨c16b0, H⟩ := H;have H' := aK H;clear H;obtain ⟨p113, q113, ad113, e113, hx113_0, hx113_1, hx113_2, hx113_3⟩ := aT (at_T61 HR0.out x7_1);obtain rfl : ad106 = ad113 := (by injection e113);go_wp2;go_roundg kj5
        case measure => exact oK
        case rel => exact ⟨(x5_1), ((rd_T61 l0 x7_1).f1), (wrap64 (x7_1 + 1)), gA, gA, gA, H', ⟨oK⟩, by repeat (first | exact Drawn0.refl _ | apply Drawn0.step)⟩
   simp only [Option.some.injEq, Prod.mk.injEq] at H;obtain ⟨rfl, rfl, rfl⟩ := H;go_wp2;go_ret3
   exact ⟨by first | rfl | (simp; done) | (simp [*]; done), by repeat (first | exact Drawn0.refl _ | apply Drawn0.step)⟩
def r08_Short.f (k : Nat) (l0 : List (S61)) : Option (Bool) := (r08_Is.f k l0).bind fun t114 => (if t114 = true then ((r08_ends.f k l0).bind fun bt115 => (if bt115.2.2 = true then (if (wrap64 (bt115.2.1 - bt115.1)) < 2000 then (some true) else (if bt115.2.1 > 65535 then (some true) else (some (decide ((wrap64 (bt115.2.1 - bt115.1)) > 32762))))) else (some true))) else (some true))
theorem r08_Short.calls (k : Nat) (A0 : Option Addr) (c0 : Nat) (l0 : List (S61)) (r : Bool) (w : World) (hr0 : Kd.C k61 w A0 l0.length l0) (hc0 : l0.length ≤ c0) (h : r08_Short.f k l0 = some r) :
  Calls Tryz.prog 17 #[.slice A0 l0.length c0] w fun e w' => e = .returned (.bool r) ∧ Below w.heap.size w w' := by
 have HR0 := aK hr0;have HC0 := aK hc0;clear hr0 hc0;have HB := aK (Below.refl w.heap.size w);have H : ((r08_Is.f k l0).bind fun t114 => (if t114 = true then ((r08_ends.f k l0).bind fun bt115 => (if bt115.2.2 = true then (if (wrap64 (bt115.2.1 - bt115.1)) < 2000 then (some true) else (if bt115.2.1 > 65535 then (some true) else (some (decide ((wrap64 (bt115.2.1 - bt115.1)) > 32762))))) else (some true))) else (some true))) = some r := h;clear h;replace H := qS H;obtain ⟨t114, A2, H⟩ := H;replace H := qB H;rcases H with ⟨rfl, H⟩ | ⟨rfl, H⟩
 ·
  replace H := qS H;obtain ⟨⟨t115, t116, t117⟩, A4, H⟩ := H;try dsimp only at H
  replace H := qB H;rcases H with ⟨rfl, H⟩ | ⟨rfl, H⟩
  ·
   replace H := qL H;rcases H with ⟨c6b0, H⟩ | ⟨c6b0, H⟩
   ·
    obtain rfl := Option.some.inj H;go_enter Tryz.func17, Tryz.ntmps17;go_wp2_with (first | ((with_reducible refine gate_callee (f := 35) rfl ?_); refine gB_ 7 Tryz.func35 (r08_Is.calls k _ _ l0 true _ ?side1 ?side2 A2.out) ?_; (case side1 => exact cA HR0.out); (case side2 => exact HC0.out); clear HB; intro w7 hb HB; clear hb) | ((with_reducible refine gate_callee (f := 39) rfl ?_); refine gD_ 11 Tryz.func39 (r08_ends.calls k _ _ l0 t115 t116 true _ ?side1 ?side2 A4.out) ?_; (case side1 => exact cB HR0.out); (case side2 => exact HC0.out); intro nd))
    go_ret;exact ⟨eA, bA⟩
   replace H := qM H;rcases H with ⟨c8b0, H⟩ | ⟨c8b0, H⟩
   ·
    obtain rfl := Option.some.inj H;go_enter Tryz.func17, Tryz.ntmps17;go_wp2_with (first | ((with_reducible refine gate_callee (f := 35) rfl ?_); refine gB_ 7 Tryz.func35 (r08_Is.calls k _ _ l0 true _ ?side1 ?side2 A2.out) ?_; (case side1 => exact cA HR0.out); (case side2 => exact HC0.out); clear HB; intro w9 hb HB; clear hb) | ((with_reducible refine gate_callee (f := 39) rfl ?_); refine gD_ 11 Tryz.func39 (r08_ends.calls k _ _ l0 t115 t116 true _ ?side1 ?side2 A4.out) ?_; (case side1 => exact cB HR0.out); (case side2 => exact HC0.out); intro nd))
    go_ret;exact ⟨eA, bA⟩
   obtain rfl := Option.some.inj H;go_enter Tryz.func17, Tryz.ntmps17;go_wp2_with (first | ((with_reducible refine gate_callee (f := 35) rfl ?_); refine gB_ 7 Tryz.func35 (r08_Is.calls k _ _ l0 true _ ?side1 ?side2 A2.out) ?_; (case side1 => exact cA HR0.out); (case side2 => exact HC0.out); clear HB; intro w10 hb HB; clear hb) | ((with_reducible refine gate_callee (f := 39) rfl ?_); refine gD_ 11 Tryz.func39 (r08_ends.calls k _ _ l0 t115 t116 true _ ?side1 ?side2 A4.out) ?_; (case side1 => exact cB HR0.out); (case side2 => exact HC0.out); intro nd))
   go_ret;exact ⟨eA, bA⟩
  obtain rfl := Option.some.inj H;go_enter Tryz.func17, Tryz.ntmps17;go_wp2_with (first | ((with_reducible refine gate_callee (f := 35) rfl ?_); refine gB_ 7 Tryz.func35 (r08_Is.calls k _ _ l0 true _ ?side1 ?side2 A2.out) ?_; (case side1 => exact cA HR0.out); (case side2 => exact HC0.out); clear HB; intro w11 hb HB; clear hb) | ((with_reducible refine gate_callee (f := 39) rfl ?_); refine gD_ 11 Tryz.func39 (r08_ends.calls k _ _ l0 t115 t116 false _ ?side1 ?side2 A4.out) ?_; (case side1 => exact cB HR0.out); (case side2 => exact HC0.out); intro nd))
  go_ret;exact ⟨eA, bA⟩
 obtain rfl := Option.some.inj H;go_enter Tryz.func17, Tryz.ntmps17;go_wp2_with (first | ((with_reducible refine gate_callee (f := 35) rfl ?_); refine gB_ 7 Tryz.func35 (r08_Is.calls k _ _ l0 false _ ?side1 ?side2 A2.out) ?_; (case side1 => exact cA HR0.out); (case side2 => exact HC0.out); clear HB; intro w12 hb HB; clear hb))
 go_ret;exact ⟨eA, bA⟩
def r08_put.f (l0 : List (S61)) (a1 : Int) (a2 : Int) : Option ((List (S61))) := if a2 = 0 then (some l0) else (if l0.length < 4398046511104 then (some (l0 ++ [(⟨a1, a1, a2, 1⟩ : S61)])) else (none))
theorem r08_put.calls (P0_ : Nat → Prop) (u9000_ : Value) (l0 : List (S61)) (a1 : Int) (a2 : Int) (r : List (S61)) (w0 w : World) (hB : Below w0.heap.size w0 w) (ho0 : Kd.R k61 61 w w0.heap.size P0_ u9000_ l0) (h : r08_put.f l0 a1 a2 = some r) :
  Calls Tryz.prog 55 #[u9000_, .int .i64 a1, .int .i64 a2] w fun e w' => ∃ v0_ : Value, e = .returned (v0_) ∧ Kd.R k61 61 w' w0.heap.size (fun k_ => (P0_ k_ ∨ w.heap.size ≤ k_)) v0_ r ∧ Below w0.heap.size w0 w' ∧ Kept w w' (fun k_ => P0_ k_) := by
 have hu61 := Tryz.underlying61;have HO0 := aK (show Kd.R k61 61 w w0.heap.size (fun k_ => (P0_ k_ ∨ w.heap.size ≤ k_)) u9000_ l0 from Kd.R_mono ho0 (fun k_ hk => (.inl hk)));have HK := aK (Kept.refl w (fun k_ => P0_ k_));have HW0 := aK hB.size;have HB := aK hB;clear hB;have H : (if a2 = 0 then (some l0) else (if l0.length < 4398046511104 then (some (l0 ++ [(⟨a1, a1, a2, 1⟩ : S61)])) else (none))) = some r := h;clear h;replace H := qF H;rcases H with ⟨c4b0, c4b1, H⟩ | ⟨c4b0, c4b1, H⟩
 ·
  obtain rfl := Option.some.inj H;go_enter Tryz.func55, Tryz.ntmps55;go_wp2;go_ret;exact ⟨_, eA, rA HO0.out, bA, by repeat (first | (with_reducible first | exact HK.out | apply Kept.alloc | apply Kept.drewN | apply Kept.drew) | exact HK.out)⟩
 replace H := nC H;obtain ⟨c5, H⟩ := H;have LMc5 := aK c5;clear c5;obtain ⟨y231, hy231⟩ : ∃ y_ : List (S61), y_ = (l0 ++ [(⟨a1, a1, a2, 1⟩ : S61)]) := ⟨_, rfl⟩;replace H : (some y231) = some r := by rw [hy231]; exact H
 have Ny231 := aK hy231;clear hy231;obtain rfl := Option.some.inj H;go_enter Tryz.func55, Tryz.ntmps55;go_wp2_with (first | ((with_reducible refine gate_builtin (b := .append) (xs := #[.tmp 10, .tmp 15]) rfl ?_); at_builtin; refine Kd.R_append k61 (w0 := w0) w0.heap.size rfl (.tmp 10) (.tmp 15) 22 61 (.agg #[(.int .i64 0), (.int .i64 0), (.int .i64 0), (.int .i64 0)]) 32 rfl Tryz.underlying22 info61 rfl (by decide) (by omega) u9000_ l0 (⟨a1, a1, a2, 1⟩ : S61) [.int .i64 a1, .int .i64 a1, .int .i64 a2, .int .i64 1] (fun k_ => (P0_ k_ ∨ w.heap.size ≤ k_)) (fun _ => False) rfl rfl ?aP (fun _ hk => hk.elim) ?aF ?aO ?aB ?aS ?aL ?_; (case aP => exact k61_mkM _ _ _ (⟨a1, a1, a2, 1⟩ : S61)); (case aB => exact bA); (case aF => exact (fun k_ hk => (.inr (Nat.le_trans (by first | exact HK.out.1 | exact (show Kept w _ (fun k_ => P0_ k_) from by repeat (first | (with_reducible first | exact HK.out | apply Kept.alloc | apply Kept.drewN | apply Kept.drew) | exact HK.out)).1) hk)))); (case aO => exact (rA HO0.out)); (case aS => exact (below_size bA)); (case aL => have := LMc5.out; omega); intro v232 w6 ho hb hg hat; rw [← Ny231.out] at ho; have n0_ := aK (hb); have n1_ := aK (Kept.of_grown (S := (fun k_ => P0_ k_)) hg (by repeat (first | (with_reducible first | exact HK.out | apply Kept.alloc | apply Kept.drewN | apply Kept.drew) | exact HK.out)) (fun k_ e_ => (HO0.out.1 k_ e_))); have n2_ := aK (ho); clear HB; clear HK; clear HO0; have HB := n0_; have HK := n1_; have HO233 := n2_; clear n0_ n1_ n2_; clear ho hb hg hat))
 go_ret;exact ⟨_, eA, rA HO233.out, bA, by repeat (first | (with_reducible first | exact HK.out | apply Kept.alloc | apply Kept.drewN | apply Kept.drew) | exact HK.out)⟩
mutual
def r08_Get.l0 : Nat → ByteArray → List (S61) → Int → Option ((List (S61)) × Int)
 | 0, _, _, _ => none
 | k + 1, x0, x6, x7 => if x7 < 256 then (if 0 ≤ (wrap64 (6 + x7)) then (if (wrap64 (6 + x7)) < (x0.size : Int) then ((r08_put.f x6 x7 (wrap64 (bt x0 (wrap64 (6 + x7))))).bind fun t236 => (r08_Get.l0 k x0 t236 (wrap64 (x7 + 1)))) else (none)) else (none)) else (some (x6, 0))
def r08_Get.l1 : Nat → ByteArray → List (S61) → Int → Int → Int → Option ((List (S61)) × Int)
 | 0, _, _, _, _, _ => none
 | k + 1, x0, x6, x8, x9, x10 => if x10 < x9 then (if 0 ≤ (wrap64 (10 + (wrap64 (2 * x10)))) then (if (wrap64 (10 + (wrap64 (2 * x10)))) ≤ (wrap64 (12 + (wrap64 (2 * x10)))) then (if (wrap64 (12 + (wrap64 (2 * x10)))) ≤ (x0.size : Int) then ((r03_One.f k (x0.extract ((wrap64 (10 + (wrap64 (2 * x10)))) : Int).toNat ((wrap64 (12 + (wrap64 (2 * x10)))) : Int).toNat) 2).bind fun t241 => ((r08_put.f x6 (wrap64 (x8 + x10)) t241).bind fun t242 => (r08_Get.l1 k x0 t242 x8 x9 (wrap64 (x10 + 1))))) else (none)) else (none)) else (none)) else (some (x6, 0))
end
def r08_Get.f (k : Nat) (a0 : ByteArray) : Option ((List (S61)) × Int) := if (a0.size : Int) < 4 then (some (([] : List (S61)), 4)) else (if 0 ≤ 2 then (if 2 ≤ (a0.size : Int) then ((r03_One.f k (a0.extract 0 2) 2).bind fun t234 => (if 2 ≤ 4 then (if 4 ≤ (a0.size : Int) then ((r03_One.f k (a0.extract 2 4) 2).bind fun t235 => (if t234 = 0 then (if t235 = 262 then (if (a0.size : Int) < 262 then (some (([] : List (S61)), 4)) else (r08_Get.l0 k a0 ([] : List (S61)) 0)) else (some (([] : List (S61)), 5))) else (if t234 = 6 then (if (a0.size : Int) < 10 then (some (([] : List (S61)), 4)) else (if 6 ≤ 8 then (if 8 ≤ (a0.size : Int) then ((r03_One.f k (a0.extract 6 8) 2).bind fun t239 => (if 8 ≤ 10 then (if 10 ≤ (a0.size : Int) then ((r03_One.f k (a0.extract 8 10) 2).bind fun t240 => (if t235 = (wrap64 (10 + (wrap64 (2 * t240)))) then (if (a0.size : Int) < t235 then (some (([] : List (S61)), 4)) else (if (wrap64 (t239 + t240)) > 65536 then (some (([] : List (S61)), 5)) else (r08_Get.l1 k a0 ([] : List (S61)) t239 t240 0))) else (some (([] : List (S61)), 5)))) else (none)) else (none))) else (none)) else (none))) else (some (([] : List (S61)), 5))))) else (none)) else (none))) else (none)) else (none))
theorem r08_Get.calls (k : Nat) (a0 : ByteArray) (r1 : List (S61)) (r2 : Int) (w : World) (h : r08_Get.f k a0 = some (r1, r2)) :
  Calls Tryz.prog 28 #[.string a0] w fun e w' => ∃ v0_ : Value, e = .returned (.tuple #[v0_, .int .i64 r2]) ∧ Kd.R k61 61 w' w.heap.size (fun _ => True) v0_ r1 ∧ Below w.heap.size w w' := by
 have HB := aK (Below.refl w.heap.size w);have H : (if (a0.size : Int) < 4 then (some (([] : List (S61)), 4)) else (if 0 ≤ 2 then (if 2 ≤ (a0.size : Int) then ((r03_One.f k (a0.extract 0 2) 2).bind fun t234 => (if 2 ≤ 4 then (if 4 ≤ (a0.size : Int) then ((r03_One.f k (a0.extract 2 4) 2).bind fun t235 => (if t234 = 0 then (if t235 = 262 then (if (a0.size : Int) < 262 then (some (([] : List (S61)), 4)) else (r08_Get.l0 k a0 ([] : List (S61)) 0)) else (some (([] : List (S61)), 5))) else (if t234 = 6 then (if (a0.size : Int) < 10 then (some (([] : List (S61)), 4)) else (if 6 ≤ 8 then (if 8 ≤ (a0.size : Int) then ((r03_One.f k (a0.extract 6 8) 2).bind fun t239 => (if 8 ≤ 10 then (if 10 ≤ (a0.size : Int) then ((r03_One.f k (a0.extract 8 10) 2).bind fun t240 => (if t235 = (wrap64 (10 + (wrap64 (2 * t240)))) then (if (a0.size : Int) < t235 then (some (([] : List (S61)), 4)) else (if (wrap64 (t239 + t240)) > 65536 then (some (([] : List (S61)), 5)) else (r08_Get.l1 k a0 ([] : List (S61)) t239 t240 0))) else (some (([] : List (S61)), 5)))) else (none)) else (none))) else (none)) else (none))) else (some (([] : List (S61)), 5))))) else (none)) else (none))) else (none)) else (none))) = some (r1, r2) := h;clear h;replace H := qC H;rcases H with ⟨c2, H⟩ | ⟨c2, H⟩
 ·
  have c2b0 : decide ((a0.size : Int) < 4) = true := decide_eq_true c2;have c2b1 : decide (a0.size < 4) = true := decide_eq_true (by omega);clear c2;obtain ⟨rfl, rfl⟩ := qP H;go_enter Tryz.func28, Tryz.ntmps28;go_wp2;go_ret2;exact ⟨_, eA, nA, bA⟩
 have c2b0 : decide ((a0.size : Int) < 4) = false := decide_eq_false c2;have c2b1 : decide (a0.size < 4) = false := decide_eq_false (by omega);clear c2;replace H := nD H;obtain ⟨c3, c3b0, c3b1, H⟩ := H;clear c3;replace H := nD H;obtain ⟨c4, c4b0, c4b1, H⟩ := H;clear c4;replace H := qS H;obtain ⟨t234, A5, H⟩ := H;replace H := nD H;obtain ⟨c6, c6b0, c6b1, H⟩ := H;clear c6;replace H := nD H;obtain ⟨c7, c7b0, c7b1, H⟩ := H;clear c7;replace H := qS H;obtain ⟨t235, A8, H⟩ := H;replace H := qF H;rcases H with ⟨c9b0, c9b1, H⟩ | ⟨c9b0, c9b1, H⟩
 ·
  replace H := qF H;rcases H with ⟨c10b0, c10b1, H⟩ | ⟨c10b0, c10b1, H⟩
  ·
   replace H := qC H;rcases H with ⟨c11, H⟩ | ⟨c11, H⟩
   ·
    have c11b0 : decide ((a0.size : Int) < 262) = true := decide_eq_true c11;have c11b1 : decide (a0.size < 262) = true := decide_eq_true (by omega);clear c11;obtain ⟨rfl, rfl⟩ := qP H;go_enter Tryz.func28, Tryz.ntmps28;go_wp2_with (first | ((with_reducible refine gate_callee (f := 26) rfl ?_); refine gD_ 16 Tryz.func26 (r03_One.calls k (a0.extract 0 2) 2 t234 _ A5.out) ?_; intro nd) | ((with_reducible refine gate_callee (f := 26) rfl ?_); refine gD_ 19 Tryz.func26 (r03_One.calls k (a0.extract 2 4) 2 t235 _ A8.out) ?_; intro nd))
    go_ret2;exact ⟨_, eA, nA, bA⟩
   have c11b0 : decide ((a0.size : Int) < 262) = false := decide_eq_false c11;have c11b1 : decide (a0.size < 262) = false := decide_eq_false (by omega);clear c11;have H' := aK H;clear H;go_enter Tryz.func28, Tryz.ntmps28;go_wp2_with (first | ((with_reducible refine gate_callee (f := 26) rfl ?_); refine gD_ 16 Tryz.func26 (r03_One.calls k (a0.extract 0 2) 2 t234 _ A5.out) ?_; intro nd) | ((with_reducible refine gate_callee (f := 26) rfl ?_); refine gD_ 19 Tryz.func26 (r03_One.calls k (a0.extract 2 4) 2 t235 _ A8.out) ?_; intro nd))
   go_loopg [6, 7] k (fun kq v6 v7 w' => ∃ (x6_1 : List (S61)) (x7_1 : Int), v7 = .int .i64 x7_1 ∧ Aside0 (r08_Get.l0 kq a0 x6_1 x7_1 = some (r1, r2)) ∧ Aside0 (kq ≤ k) ∧ Aside0 (Kd.R k61 61 w' w.heap.size (fun _ => True) v6 x6_1) ∧ Aside0 (Below w.heap.size w w'))
   case atStart => exact ⟨(([] : List (S61))), (0), gA, H', ⟨Nat.le_refl _⟩, ⟨nA⟩, ⟨bA⟩⟩
   case round =>
    clear H';obtain ⟨x6_1, x7_1, rfl, HA, HK1, HO_6, HB⟩ := hrel;cases gk with
    | zero => exact absurd HA.out (by simp [r08_Get.l0])
    | succ k1 =>
     have H := HA.out;clear HA;simp only [r08_Get.l0] at H;replace H := qL H;rcases H with ⟨c12b0, H⟩ | ⟨c12b0, H⟩
     ·
      obtain ⟨ji13, hji13⟩ : ∃ j_ : Int, (wrap64 (6 + x7_1)) = j_ := ⟨_, rfl⟩;replace H : (if 0 ≤ (ji13) then (if (ji13) < (a0.size : Int) then ((r08_put.f x6_1 x7_1 (wrap64 (bt a0 (ji13)))).bind fun t236 => (r08_Get.l0 k1 a0 t236 (wrap64 (x7_1 + 1)))) else (none)) else (none)) = some (r1, r2) := by first | (rw [hji13] at H; exact H) | (simp only [hji13] at H ⊢; exact H)
      have hji13w : (IntKind.i64.wrap (6 + x7_1)) = ji13 := (i64_w _).trans hji13;replace H := nL H;obtain ⟨c14b0, H⟩ := H;replace H := nL H;obtain ⟨c15b0, H⟩ := H;replace H := qS H;obtain ⟨t236, A17, H⟩ := H;have H' := aK H;clear H;have p16 : 0 ≤ ((ji13) : Int) := of_decide_eq_true sA;have q16 : (ji13) < (a0.size : Int) := of_decide_eq_true sA;have hx16 := bt_at a0 (ji13);replace p16 := eq_true p16;replace q16 := eq_true q16;obtain ⟨Ao18, co18, eo18⟩ := Kd.R_slice HO_6.out;subst eo18;go_wp2_with (first | ((with_reducible refine gate_callee (f := 55) rfl ?_); refine goesL_ (some 38) rfl rfl Tryz.func55 (by kernel_rfl) rfl #[.slice Ao18 x6_1.length co18, .int .i64 x7_1, .int .i64 (wrap64 (bt a0 (ji13)))] rfl (by (try simp only [List.map_toArray, List.map_cons, List.map_nil]); first | done | (simp only [hji13]; rfl) | rfl | (simp only [List.length_drop, List.length_take]; rfl)) ?_; (with_reducible refine (r08_put.calls (fun k_ => some k_ = (.slice Ao18 x6_1.length co18 : Value).ownBlock) (.slice Ao18 x6_1.length co18) x6_1 x7_1 (wrap64 (bt a0 (ji13))) t236 w _ ?side1 ?side2 A17.out).mono ?_); (case side1 => repeat (first | (with_reducible first | exact HB.out | apply below_alloc | apply pw_below_drewN | apply below_drew1) | exact HB.out)); (case side2 => exact Kd.R_tight rfl HO_6.out); rintro e w19 ⟨v237, rfl, ho0, hb, hkp⟩; refine ⟨_, rfl, ?_⟩; have n0_ := aK (Kd.R_mono (ok' := fun k_ => True) ho0 (fun k_ hk_ => trivial)); have n1_ := aK (hb); clear HB; clear HO_6; have HO238 := n0_; have HB := n1_; clear n0_ n1_; (try clear hb); (try clear hkp); (try clear ho0)))
      go_roundg k1
      case measure => exact oK
      case rel => exact ⟨(t236), (wrap64 (x7_1 + 1)), gA, H', ⟨oK⟩, ⟨rA HO238.out⟩, ⟨bA⟩⟩
     obtain ⟨rfl, rfl⟩ := qP H;go_wp2;go_ret2;exact ⟨_, eA, rA HO_6.out, bA⟩
  obtain ⟨rfl, rfl⟩ := qP H;go_enter Tryz.func28, Tryz.ntmps28;go_wp2_with (first | ((with_reducible refine gate_callee (f := 26) rfl ?_); refine gD_ 16 Tryz.func26 (r03_One.calls k (a0.extract 0 2) 2 t234 _ A5.out) ?_; intro nd) | ((with_reducible refine gate_callee (f := 26) rfl ?_); refine gD_ 19 Tryz.func26 (r03_One.calls k (a0.extract 2 4) 2 t235 _ A8.out) ?_; intro nd))
  go_ret2;exact ⟨_, eA, nA, bA⟩
 replace H := qF H;rcases H with ⟨c20b0, c20b1, H⟩ | ⟨c20b0, c20b1, H⟩
 ·
  replace H := qC H;rcases H with ⟨c21, H⟩ | ⟨c21, H⟩
  ·
   have c21b0 : decide ((a0.size : Int) < 10) = true := decide_eq_true c21;have c21b1 : decide (a0.size < 10) = true := decide_eq_true (by omega);clear c21;obtain ⟨rfl, rfl⟩ := qP H;go_enter Tryz.func28, Tryz.ntmps28;go_wp2_with (first | ((with_reducible refine gate_callee (f := 26) rfl ?_); refine gD_ 16 Tryz.func26 (r03_One.calls k (a0.extract 0 2) 2 t234 _ A5.out) ?_; intro nd) | ((with_reducible refine gate_callee (f := 26) rfl ?_); refine gD_ 19 Tryz.func26 (r03_One.calls k (a0.extract 2 4) 2 t235 _ A8.out) ?_; intro nd))
   go_ret2;exact ⟨_, eA, nA, bA⟩
  have c21b0 : decide ((a0.size : Int) < 10) = false := decide_eq_false c21;have c21b1 : decide (a0.size < 10) = false := decide_eq_false (by omega);clear c21;replace H := nD H;obtain ⟨c22, c22b0, c22b1, H⟩ := H;clear c22;replace H := nD H;obtain ⟨c23, c23b0, c23b1, H⟩ := H;clear c23;replace H := qS H;obtain ⟨t239, A24, H⟩ := H;replace H := nD H;obtain ⟨c25, c25b0, c25b1, H⟩ := H;clear c25;replace H := nD H;obtain ⟨c26, c26b0, c26b1, H⟩ := H;clear c26;replace H := qS H;obtain ⟨t240, A27, H⟩ := H;replace H := qF H;rcases H with ⟨c28b0, c28b1, H⟩ | ⟨c28b0, c28b1, H⟩
  ·
   replace H := qL H;rcases H with ⟨c29b0, H⟩ | ⟨c29b0, H⟩
   ·
    obtain ⟨rfl, rfl⟩ := qP H;go_enter Tryz.func28, Tryz.ntmps28;go_wp2_with (first | ((with_reducible refine gate_callee (f := 26) rfl ?_); refine gD_ 16 Tryz.func26 (r03_One.calls k (a0.extract 0 2) 2 t234 _ A5.out) ?_; intro nd) | ((with_reducible refine gate_callee (f := 26) rfl ?_); refine gD_ 19 Tryz.func26 (r03_One.calls k (a0.extract 2 4) 2 t235 _ A8.out) ?_; intro nd) | ((with_reducible refine gate_callee (f := 26) rfl ?_); refine gD_ 47 Tryz.func26 (r03_One.calls k (a0.extract 6 8) 2 t239 _ A24.out) ?_; intro nd) | ((with_reducible refine gate_callee (f := 26) rfl ?_); refine gD_ 50 Tryz.func26 (r03_One.calls k (a0.extract 8 10) 2 t240 _ A27.out) ?_; intro nd))
    go_ret2;exact ⟨_, eA, nA, bA⟩
   replace H := qM H;rcases H with ⟨c30b0, H⟩ | ⟨c30b0, H⟩
   ·
    obtain ⟨rfl, rfl⟩ := qP H;go_enter Tryz.func28, Tryz.ntmps28;go_wp2_with (first | ((with_reducible refine gate_callee (f := 26) rfl ?_); refine gD_ 16 Tryz.func26 (r03_One.calls k (a0.extract 0 2) 2 t234 _ A5.out) ?_; intro nd) | ((with_reducible refine gate_callee (f := 26) rfl ?_); refine gD_ 19 Tryz.func26 (r03_One.calls k (a0.extract 2 4) 2 t235 _ A8.out) ?_; intro nd) | ((with_reducible refine gate_callee (f := 26) rfl ?_); refine gD_ 47 Tryz.func26 (r03_One.calls k (a0.extract 6 8) 2 t239 _ A24.out) ?_; intro nd) | ((with_reducible refine gate_callee (f := 26) rfl ?_); refine gD_ 50 Tryz.func26 (r03_One.calls k (a0.extract 8 10) 2 t240 _ A27.out) ?_; intro nd))
    go_ret2;exact ⟨_, eA, nA, bA⟩
   have H' := aK H;clear H;go_enter Tryz.func28, Tryz.ntmps28;go_wp2_with (first | ((with_reducible refine gate_callee (f := 26) rfl ?_); refine gD_ 16 Tryz.func26 (r03_One.calls k (a0.extract 0 2) 2 t234 _ A5.out) ?_; intro nd) | ((with_reducible refine gate_callee (f := 26) rfl ?_); refine gD_ 19 Tryz.func26 (r03_One.calls k (a0.extract 2 4) 2 t235 _ A8.out) ?_; intro nd) | ((with_reducible refine gate_callee (f := 26) rfl ?_); refine gD_ 47 Tryz.func26 (r03_One.calls k (a0.extract 6 8) 2 t239 _ A24.out) ?_; intro nd) | ((with_reducible refine gate_callee (f := 26) rfl ?_); refine gD_ 50 Tryz.func26 (r03_One.calls k (a0.extract 8 10) 2 t240 _ A27.out) ?_; intro nd))
   go_loopg [6, 10] k (fun kq v6 v10 w' => ∃ (x6_1 : List (S61)) (x10_1 : Int), v10 = .int .i64 x10_1 ∧ Aside0 (r08_Get.l1 kq a0 x6_1 t239 t240 x10_1 = some (r1, r2)) ∧ Aside0 (kq ≤ k) ∧ Aside0 (Kd.R k61 61 w' w.heap.size (fun _ => True) v6 x6_1) ∧ Aside0 (Below w.heap.size w w'))
   case atStart => exact ⟨(([] : List (S61))), (0), gA, H', ⟨Nat.le_refl _⟩, ⟨nA⟩, ⟨bA⟩⟩
   case round =>
    clear H';try clear q1 hx1 q16 hx16 q16
    obtain ⟨x6_1, x10_1, rfl, HA, HK1, HO_6, HB⟩ := hrel;cases gk with
    | zero => exact absurd HA.out (by simp [r08_Get.l1])
    | succ k1 =>
     have H := HA.out;clear HA;simp only [r08_Get.l1] at H;replace H := qL H;rcases H with ⟨c31b0, H⟩ | ⟨c31b0, H⟩
     ·
      obtain ⟨ji32, hji32⟩ : ∃ j_ : Int, (wrap64 (10 + (wrap64 (2 * x10_1)))) = j_ := ⟨_, rfl⟩;replace H : (if 0 ≤ (ji32) then (if (ji32) ≤ (wrap64 (12 + (wrap64 (2 * x10_1)))) then (if (wrap64 (12 + (wrap64 (2 * x10_1)))) ≤ (a0.size : Int) then ((r03_One.f k1 (a0.extract ((ji32) : Int).toNat ((wrap64 (12 + (wrap64 (2 * x10_1)))) : Int).toNat) 2).bind fun t241 => ((r08_put.f x6_1 (wrap64 (t239 + x10_1)) t241).bind fun t242 => (r08_Get.l1 k1 a0 t242 t239 t240 (wrap64 (x10_1 + 1))))) else (none)) else (none)) else (none)) = some (r1, r2) := by first | (rw [hji32] at H; exact H) | (simp only [hji32] at H ⊢; exact H)
      have hji32w : (IntKind.i64.wrap (10 + (wrap64 (2 * x10_1)))) = ji32 := (i64_w _).trans hji32;replace H := nD H;obtain ⟨c33, c33b0, c33b1, H⟩ := H;clear c33;replace H := nD H;obtain ⟨c34, c34b0, c34b1, H⟩ := H;replace H := nD H;obtain ⟨c35, c35b0, c35b1, H⟩ := H;replace H := qS H;obtain ⟨t241, A36, H⟩ := H;replace H := qS H;obtain ⟨t242, A37, H⟩ := H;have H' := aK H;clear H;go_wp2_with (first | ((with_reducible refine gate_callee (f := 26) rfl ?_); refine goesL_ (some 81) rfl rfl Tryz.func26 (by kernel_rfl) rfl #[.string (a0.extract ((ji32) : Int).toNat ((wrap64 (12 + (wrap64 (2 * x10_1)))) : Int).toNat), .int .i64 2] rfl (by (try simp only [List.map_toArray, List.map_cons, List.map_nil]); first | done | (simp only [hji32]; rfl) | rfl | (simp only [List.length_drop, List.length_take]; rfl)) ?_; (with_reducible refine (r03_One.calls k1 (a0.extract ((ji32) : Int).toNat ((wrap64 (12 + (wrap64 (2 * x10_1)))) : Int).toNat) 2 t241 _ A36.out).mono ?_); rintro e w' ⟨rfl, ⟨nd, rfl⟩⟩; refine ⟨_, rfl, ?_⟩; obtain ⟨Ao38, co38, eo38⟩ := Kd.R_slice HO_6.out; subst eo38) | ((with_reducible refine gate_callee (f := 55) rfl ?_); refine gL_ 82 Tryz.func55 #[.slice Ao38 x6_1.length co38, .int .i64 (wrap64 (t239 + x10_1)), .int .i64 t241] ?_; (with_reducible refine (r08_put.calls (fun k_ => some k_ = (.slice Ao38 x6_1.length co38 : Value).ownBlock) (.slice Ao38 x6_1.length co38) x6_1 (wrap64 (t239 + x10_1)) t241 t242 w _ ?side1 ?side2 A37.out).mono ?_); (case side1 => repeat (first | (with_reducible first | exact HB.out | apply below_alloc | apply pw_below_drewN | apply below_drew1) | exact HB.out)); (case side2 => exact Kd.R_tight rfl HO_6.out); rintro e w39 ⟨v243, rfl, ho0, hb, hkp⟩; refine ⟨_, rfl, ?_⟩; have n0_ := aK (Kd.R_mono (ok' := fun k_ => True) ho0 (fun k_ hk_ => trivial)); have n1_ := aK (hb); clear HB; clear HO_6; have HO244 := n0_; have HB := n1_; clear n0_ n1_; (try clear hb); (try clear hkp); (try clear ho0)))
      go_roundg k1
      case measure => exact oK
      case rel => exact ⟨(t242), (wrap64 (x10_1 + 1)), gA, H', ⟨oK⟩, ⟨rA HO244.out⟩, ⟨bA⟩⟩
     obtain ⟨rfl, rfl⟩ := qP H;go_wp2;go_ret2;exact ⟨_, eA, rA HO_6.out, bA⟩
  obtain ⟨rfl, rfl⟩ := qP H;go_enter Tryz.func28, Tryz.ntmps28;go_wp2_with (first | ((with_reducible refine gate_callee (f := 26) rfl ?_); refine gD_ 16 Tryz.func26 (r03_One.calls k (a0.extract 0 2) 2 t234 _ A5.out) ?_; intro nd) | ((with_reducible refine gate_callee (f := 26) rfl ?_); refine gD_ 19 Tryz.func26 (r03_One.calls k (a0.extract 2 4) 2 t235 _ A8.out) ?_; intro nd) | ((with_reducible refine gate_callee (f := 26) rfl ?_); refine gD_ 47 Tryz.func26 (r03_One.calls k (a0.extract 6 8) 2 t239 _ A24.out) ?_; intro nd) | ((with_reducible refine gate_callee (f := 26) rfl ?_); refine gD_ 50 Tryz.func26 (r03_One.calls k (a0.extract 8 10) 2 t240 _ A27.out) ?_; intro nd))
  go_ret2;exact ⟨_, eA, nA, bA⟩
 obtain ⟨rfl, rfl⟩ := qP H;go_enter Tryz.func28, Tryz.ntmps28;go_wp2_with (first | ((with_reducible refine gate_callee (f := 26) rfl ?_); refine gD_ 16 Tryz.func26 (r03_One.calls k (a0.extract 0 2) 2 t234 _ A5.out) ?_; intro nd) | ((with_reducible refine gate_callee (f := 26) rfl ?_); refine gD_ 19 Tryz.func26 (r03_One.calls k (a0.extract 2 4) 2 t235 _ A8.out) ?_; intro nd))
 go_ret2;exact ⟨_, eA, nA, bA⟩
def r08_look.l0 : Nat → List (S61) → Int → Int → Option (Int)
 | 0, _, _, _ => none
 | k + 1, x0, x1, x5 => if x5 < (x0.length : Int) then (if 0 ≤ x5 then (if x1 ≥ ((rd_T61 x0 x5).f0) then (if x1 ≤ ((rd_T61 x0 x5).f1) then (some (wrap64 (((rd_T61 x0 x5).f2) + (wrap64 (((rd_T61 x0 x5).f3) * (wrap64 (x1 - ((rd_T61 x0 x5).f0)))))))) else (r08_look.l0 k x0 x1 (wrap64 (x5 + 1)))) else (r08_look.l0 k x0 x1 (wrap64 (x5 + 1)))) else (none)) else (some 0)
def r08_look.f (k : Nat) (l0 : List (S61)) (a1 : Int) : Option (Int) := r08_look.l0 k l0 a1 0
theorem r08_look.calls (k : Nat) (A0 : Option Addr) (c0 : Nat) (l0 : List (S61)) (a1 : Int) (r : Int) (w : World) (hr0 : Kd.C k61 w A0 l0.length l0) (hc0 : l0.length ≤ c0) (h : r08_look.f k l0 a1 = some r) :
  Calls Tryz.prog 71 #[.slice A0 l0.length c0, .int .i64 a1] w fun e w' => e = .returned (.int .i64 r) ∧ Drawn0 w w' := by
 have HR0 := aK hr0;have HC0 := aK hc0;clear hr0 hc0;have H : (r08_look.l0 k l0 a1 0) = some r := h;clear h;have H' := aK H;clear H;go_enter Tryz.func71, Tryz.ntmps71;go_wp2;go_loopg [5] k (fun kq v5 w' => ∃ (x5_1 : Int), v5 = .int .i64 x5_1 ∧ Aside0 (r08_look.l0 kq l0 a1 x5_1 = some r) ∧ Aside0 (kq ≤ k) ∧ Drawn0 w w')
 case atStart => exact ⟨(0), gA, H', ⟨Nat.le_refl _⟩, by repeat (first | exact Drawn0.refl _ | apply Drawn0.step)⟩
 case round =>
  clear H';obtain ⟨x5_1, rfl, HA, HK1, ⟨m1, rfl⟩⟩ := hrel;cases gk with
  | zero => exact absurd HA.out (by simp [r08_look.l0])
  | succ k1 =>
   have H := HA.out;clear HA;simp only [r08_look.l0] at H;replace H := qL H;rcases H with ⟨c3b0, H⟩ | ⟨c3b0, H⟩
   ·
    replace H := nL H;obtain ⟨c4b0, H⟩ := H;replace H := qG H;rcases H with ⟨c5b0, H⟩ | ⟨c5b0, H⟩
    ·
     replace H := qL H;rcases H with ⟨c6b0, H⟩ | ⟨c6b0, H⟩
     ·
      obtain rfl := Option.some.inj H;obtain ⟨p362, q362, ad362, e362, hx362_0, hx362_1, hx362_2, hx362_3⟩ := aT (at_T61 HR0.out x5_1);cases e362
      obtain ⟨p363, q363, ad363, e363, hx363_0, hx363_1, hx363_2, hx363_3⟩ := aT (at_T61 HR0.out x5_1);obtain rfl : ad362 = ad363 := (by injection e363);obtain ⟨p364, q364, ad364, e364, hx364_0, hx364_1, hx364_2, hx364_3⟩ := aT (at_T61 HR0.out x5_1);obtain rfl : ad362 = ad364 := (by injection e364);obtain ⟨p365, q365, ad365, e365, hx365_0, hx365_1, hx365_2, hx365_3⟩ := aT (at_T61 HR0.out x5_1);obtain rfl : ad362 = ad365 := (by injection e365);obtain ⟨p366, q366, ad366, e366, hx366_0, hx366_1, hx366_2, hx366_3⟩ := aT (at_T61 HR0.out x5_1);obtain rfl : ad362 = ad366 := (by injection e366);go_wp2;repeat (go_quiet (fail); try go_wp2)
      go_ret;exact ⟨by first | rfl | (simp; done) | (simp [*]; done), by repeat (first | exact Drawn0.refl _ | apply Drawn0.step)⟩
     have H' := aK H;clear H;obtain ⟨p362, q362, ad362, e362, hx362_0, hx362_1, hx362_2, hx362_3⟩ := aT (at_T61 HR0.out x5_1);cases e362
     obtain ⟨p363, q363, ad363, e363, hx363_0, hx363_1, hx363_2, hx363_3⟩ := aT (at_T61 HR0.out x5_1);obtain rfl : ad362 = ad363 := (by injection e363);go_wp2;go_roundg k1
     case measure => exact oK
     case rel => exact ⟨(wrap64 (x5_1 + 1)), gA, H', ⟨oK⟩, by repeat (first | exact Drawn0.refl _ | apply Drawn0.step)⟩
    have H' := aK H;clear H;obtain ⟨p362, q362, ad362, e362, hx362_0, hx362_1, hx362_2, hx362_3⟩ := aT (at_T61 HR0.out x5_1);cases e362
    go_wp2;go_roundg k1
    case measure => exact oK
    case rel => exact ⟨(wrap64 (x5_1 + 1)), gA, H', ⟨oK⟩, by repeat (first | exact Drawn0.refl _ | apply Drawn0.step)⟩
   obtain rfl := Option.some.inj H;go_wp2;go_ret;exact ⟨by first | rfl | (simp; done) | (simp [*]; done), by repeat (first | exact Drawn0.refl _ | apply Drawn0.step)⟩
mutual
def r08_PutSmall.j0 : Nat → List (S61) → Bool → Option (ByteArray × Int)
 | 0, _, _ => none
 | k + 1, x0, x23 => if x23 = true then (some ((⟨#[]⟩ : ByteArray), 7)) else (r08_PutSmall.l0 k x0 (⟨#[0, 0, 1, 6, 0, 0]⟩ : ByteArray) 0)
def r08_PutSmall.l0 : Nat → List (S61) → ByteArray → Int → Option (ByteArray × Int)
 | 0, _, _, _ => none
 | k + 1, x0, x7, x8 => if x8 < 256 then ((r08_look.f k x0 x8).bind fun t371 => (if t371 > 255 then (some ((⟨#[]⟩ : ByteArray), 7)) else ((some (([(t371) % 256] : List Int) : List Int)).bind fun y372 => (if x7.size + (strOfNums y372).size ≤ 9223372036854775807 then (r08_PutSmall.l0 k x0 (x7 ++ (strOfNums y372)) (wrap64 (x8 + 1))) else (none))))) else (some (x7, 0))
end
def r08_PutSmall.f (k : Nat) (l0 : List (S61)) : Option (ByteArray × Int) := (r08_Is.f k l0).bind fun t367 => (if t367 = true then ((r08_ends.f k l0).bind fun bt368 => (if bt368.2.2 = true then (r08_PutSmall.j0 k l0 (decide (bt368.2.1 > 255))) else (r08_PutSmall.j0 k l0 false))) else (some ((⟨#[]⟩ : ByteArray), 1)))
theorem r08_PutSmall.calls (k : Nat) (A0 : Option Addr) (c0 : Nat) (l0 : List (S61)) (r1 : ByteArray) (r2 : Int) (w : World) (hr0 : Kd.C k61 w A0 l0.length l0) (hc0 : l0.length ≤ c0) (h : r08_PutSmall.f k l0 = some (r1, r2)) :
  Calls Tryz.prog 63 #[.slice A0 l0.length c0] w fun e w' => e = .returned (.tuple #[.string r1, .int .i64 r2]) ∧ Below w.heap.size w w' := by
 have HR0 := aK hr0;have HC0 := aK hc0;clear hr0 hc0;have HB := aK (Below.refl w.heap.size w);have H : ((r08_Is.f k l0).bind fun t367 => (if t367 = true then ((r08_ends.f k l0).bind fun bt368 => (if bt368.2.2 = true then (r08_PutSmall.j0 k l0 (decide (bt368.2.1 > 255))) else (r08_PutSmall.j0 k l0 false))) else (some ((⟨#[]⟩ : ByteArray), 1)))) = some (r1, r2) := h;clear h;replace H := qS H;obtain ⟨t367, A2, H⟩ := H;replace H := qB H;rcases H with ⟨rfl, H⟩ | ⟨rfl, H⟩
 ·
  replace H := qS H;obtain ⟨⟨t368, t369, t370⟩, A4, H⟩ := H;try dsimp only at H
  have HC5 := aK H;clear H;go_enter Tryz.func63, Tryz.ntmps63;go_upto_region 4 with (first | ((with_reducible refine gate_callee (f := 35) rfl ?_); refine gB_ 11 Tryz.func35 (r08_Is.calls k _ _ l0 true _ ?side1 ?side2 A2.out) ?_; (case side1 => exact cA HR0.out); (case side2 => exact HC0.out); clear HB; intro w6 hb HB; clear hb) | ((with_reducible refine gate_callee (f := 39) rfl ?_); refine gD_ 15 Tryz.func39 (r08_ends.calls k _ _ l0 t368 t369 t370 _ ?side1 ?side2 A4.out) ?_; (case side1 => exact cB HR0.out); (case side2 => exact HC0.out); intro nd))
  (try simp only [Act.put, List.setIfInBounds_toArray, List.set_cons_zero, List.set_cons_succ])
  go_cut [23] (fun v23 wc => ∃ (kq : Nat) (x23_4 : Bool), v23 = .bool x23_4 ∧ Aside0 (r08_PutSmall.j0 kq l0 x23_4 = some (r1, r2)) ∧ Aside0 (kq ≤ k) ∧ Aside0 (Below w.heap.size w wc))
  case first =>
   have H := HC5.out;clear HC5;replace H := qB H;rcases H with ⟨rfl, H⟩ | ⟨rfl, H⟩
   ·
    have H' := aK H;clear H;go_wp2;go_meet
    case rel => exact ⟨_, (decide (t369 > 255)), gA, H', ⟨oK⟩, ⟨bA⟩⟩
   have H' := aK H;clear H;go_wp2;go_meet
   case rel => exact ⟨_, (false), gA, H', ⟨oK⟩, ⟨bA⟩⟩
  case rest =>
   clear HC5;obtain ⟨kq, x23_4, rfl, HA, HJ4, HB⟩ := hcut;cases kq with
   | zero => exact absurd HA.out (by simp [r08_PutSmall.j0])
   | succ kj4 =>
    have H := HA.out;clear HA;simp only [r08_PutSmall.j0] at H;replace H := qB H;rcases H with ⟨rfl, H⟩ | ⟨rfl, H⟩
    ·
     obtain ⟨rfl, rfl⟩ := qP H;go_wp2;go_ret2;exact ⟨eA, bA⟩
    have H' := aK H;clear H;go_wp2;go_loopg [7, 8] kj4 (fun kq v7 v8 w' => ∃ (x7_2 : ByteArray) (x8_2 : Int), v7 = .string x7_2 ∧ v8 = .int .i64 x8_2 ∧ Aside0 (r08_PutSmall.l0 kq l0 x7_2 x8_2 = some (r1, r2)) ∧ Aside0 (kq ≤ kj4) ∧ Aside0 (Below w.heap.size w w'))
    case atStart => exact ⟨((⟨#[0, 0, 1, 6, 0, 0]⟩ : ByteArray)), (0), gA, gA, H', ⟨Nat.le_refl _⟩, ⟨bA⟩⟩
    case round =>
     clear H';obtain ⟨x7_2, x8_2, rfl, rfl, HA, HK2, HB⟩ := hrel;cases gk with
     | zero => exact absurd HA.out (by simp [r08_PutSmall.l0])
     | succ k2 =>
      have H := HA.out;clear HA;simp only [r08_PutSmall.l0] at H;replace H := qL H;rcases H with ⟨c9b0, H⟩ | ⟨c9b0, H⟩
      ·
       replace H := qS H;obtain ⟨t371, A10, H⟩ := H;replace H := qM H;rcases H with ⟨c11b0, H⟩ | ⟨c11b0, H⟩
       ·
        obtain ⟨rfl, rfl⟩ := qP H;go_wp2_with (first | ((with_reducible refine gate_callee (f := 71) rfl ?_); refine gD_ 30 Tryz.func71 (r08_look.calls k2 _ _ l0 x8_2 t371 _ ?side1 ?side2 A10.out) ?_; (case side1 => exact cB HR0.out); (case side2 => exact HC0.out); intro nd))
        go_ret2;exact ⟨eA, bA⟩
       replace H := yE H;obtain ⟨y372, hy372, H⟩ := H;have Ny372 := aK hy372;clear hy372;replace H := nD H;obtain ⟨c12, c12b0, c12b1, H⟩ := H;try have c12b2 : (9223372036854775807 < x7_2.size + (strOfNums y372).size) = False := eq_false (Nat.not_lt.2 c12)
       have H' := aK H;clear H;go_wp2_with (first | ((with_reducible refine gate_callee (f := 71) rfl ?_); refine gD_ 30 Tryz.func71 (r08_look.calls k2 _ _ l0 x8_2 t371 _ ?side1 ?side2 A10.out) ?_; (case side1 => exact cB HR0.out); (case side2 => exact HC0.out); intro nd) | ((with_reducible refine gate_dst (N := 36) rfl ?_); refine Kd.R_lit (Kd.int .u8) _ 5 ?hg (N := 36) ?hd (xs := ([(t371) % 256] : List Int)) (inner := [.int .u8 ((t371) % 256)]) (ok := fun _ => True) (okp := fun _ => True) ?hr ?hp (fun _ hk => hk) trivial (Below.refl _ _) (Nat.le_refl _) (by simp) ?_; (case hd => rfl); (case hg => rfl); (case hr => exact hA); (case hp => exact (Reps.one (show Kd.M (Kd.int .u8) _ _ _ ((t371) % 256) [.int .u8 ((t371) % 256)] from rfl) (Reps.none _ _))); intro v373 w13 ho14 hb hg_ hnew_; clear hg_ hnew_; (first | rw [← Ny372.out] at ho14 | (simp only [Int.reduceToNat] at ho14; rw [← Ny372.out] at ho14)); have HO374 := aK (Kd.R_lower ho14 (below_size bA)); replace HB := aK (below_step bA hb); clear hb ho14; have hcv15 := own_string (P := Tryz.prog) Tryz.underlying81 Tryz.underlying5 Tryz.underlying9 (Kd.own_of_R HO374.out)))
       go_roundg k2
       case measure => exact oK
       case rel => exact ⟨(x7_2 ++ (strOfNums y372)), (wrap64 (x8_2 + 1)), gA, gA, H', ⟨oK⟩, ⟨bA⟩⟩
      obtain ⟨rfl, rfl⟩ := qP H;go_wp2;go_ret2;exact ⟨eA, bA⟩
 obtain ⟨rfl, rfl⟩ := qP H;go_enter Tryz.func63, Tryz.ntmps63;go_wp2_with (first | ((with_reducible refine gate_callee (f := 35) rfl ?_); refine gB_ 11 Tryz.func35 (r08_Is.calls k _ _ l0 false _ ?side1 ?side2 A2.out) ?_; (case side1 => exact cA HR0.out); (case side2 => exact HC0.out); clear HB; intro w16 hb HB; clear hb))
 go_ret2;exact ⟨eA, bA⟩
mutual
def r08_PutTrimmed.j0 : Nat → List (S61) → Int → Int → Bool → Bool → Option (ByteArray × Int)
 | 0, _, _, _, _, _ => none
 | k + 1, x0, x4, x5, x6, x23 => if x23 = true then (some ((⟨#[]⟩ : ByteArray), 7)) else (if x6 = true then (r08_PutTrimmed.j1 k x0 x4 (wrap64 ((wrap64 (x5 - x4)) + 1))) else (r08_PutTrimmed.j1 k x0 0 0))
def r08_PutTrimmed.j1 : Nat → List (S61) → Int → Int → Option (ByteArray × Int)
 | 0, _, _, _ => none
 | k + 1, x0, x4, x7 => if x7 > 32762 then (some ((⟨#[]⟩ : ByteArray), 7)) else ((r03_Bytes.f k (wrap64 (10 + (wrap64 (2 * x7)))) 2).bind fun t383 => (if 2 + t383.size ≤ 9223372036854775807 then (if ((⟨#[0, 6]⟩ : ByteArray) ++ t383).size + 2 ≤ 9223372036854775807 then ((r03_Bytes.f k x4 2).bind fun t384 => (if (((⟨#[0, 6]⟩ : ByteArray) ++ t383) ++ (⟨#[0, 0]⟩ : ByteArray)).size + t384.size ≤ 9223372036854775807 then ((r03_Bytes.f k x7 2).bind fun t385 => (if ((((⟨#[0, 6]⟩ : ByteArray) ++ t383) ++ (⟨#[0, 0]⟩ : ByteArray)) ++ t384).size + t385.size ≤ 9223372036854775807 then (r08_PutTrimmed.l0 k x0 x4 x7 (((((⟨#[0, 6]⟩ : ByteArray) ++ t383) ++ (⟨#[0, 0]⟩ : ByteArray)) ++ t384) ++ t385) 0) else (none))) else (none))) else (none)) else (none)))
def r08_PutTrimmed.l0 : Nat → List (S61) → Int → Int → ByteArray → Int → Option (ByteArray × Int)
 | 0, _, _, _, _, _ => none
 | k + 1, x0, x4, x7, x8, x9 => if x9 < x7 then ((r08_look.f k x0 (wrap64 (x4 + x9))).bind fun t386 => ((r03_Bytes.f k t386 2).bind fun t387 => (if x8.size + t387.size ≤ 9223372036854775807 then (r08_PutTrimmed.l0 k x0 x4 x7 (x8 ++ t387) (wrap64 (x9 + 1))) else (none)))) else (some (x8, 0))
end
def r08_PutTrimmed.f (k : Nat) (l0 : List (S61)) : Option (ByteArray × Int) := (r08_Is.f k l0).bind fun t379 => (if t379 = true then ((r08_ends.f k l0).bind fun bt380 => (if bt380.2.2 = true then (r08_PutTrimmed.j0 k l0 bt380.1 bt380.2.1 bt380.2.2 (decide (bt380.2.1 > 65535))) else (r08_PutTrimmed.j0 k l0 bt380.1 bt380.2.1 bt380.2.2 false))) else (some ((⟨#[]⟩ : ByteArray), 1)))
theorem r08_PutTrimmed.calls (k : Nat) (A0 : Option Addr) (c0 : Nat) (l0 : List (S61)) (r1 : ByteArray) (r2 : Int) (w : World) (hr0 : Kd.C k61 w A0 l0.length l0) (hc0 : l0.length ≤ c0) (h : r08_PutTrimmed.f k l0 = some (r1, r2)) :
  Calls Tryz.prog 64 #[.slice A0 l0.length c0] w fun e w' => e = .returned (.tuple #[.string r1, .int .i64 r2]) ∧ Below w.heap.size w w' := by
 have HR0 := aK hr0;have HC0 := aK hc0;clear hr0 hc0;have HB := aK (Below.refl w.heap.size w);have H : ((r08_Is.f k l0).bind fun t379 => (if t379 = true then ((r08_ends.f k l0).bind fun bt380 => (if bt380.2.2 = true then (r08_PutTrimmed.j0 k l0 bt380.1 bt380.2.1 bt380.2.2 (decide (bt380.2.1 > 65535))) else (r08_PutTrimmed.j0 k l0 bt380.1 bt380.2.1 bt380.2.2 false))) else (some ((⟨#[]⟩ : ByteArray), 1)))) = some (r1, r2) := h;clear h;replace H := qS H;obtain ⟨t379, A2, H⟩ := H;replace H := qB H;rcases H with ⟨rfl, H⟩ | ⟨rfl, H⟩
 ·
  replace H := qS H;obtain ⟨⟨t380, t381, t382⟩, A4, H⟩ := H;try dsimp only at H
  have HC5 := aK H;clear H;go_enter Tryz.func64, Tryz.ntmps64;go_upto_region 4 with (first | ((with_reducible refine gate_callee (f := 35) rfl ?_); refine gB_ 11 Tryz.func35 (r08_Is.calls k _ _ l0 true _ ?side1 ?side2 A2.out) ?_; (case side1 => exact cA HR0.out); (case side2 => exact HC0.out); clear HB; intro w6 hb HB; clear hb) | ((with_reducible refine gate_callee (f := 39) rfl ?_); refine gD_ 15 Tryz.func39 (r08_ends.calls k _ _ l0 t380 t381 t382 _ ?side1 ?side2 A4.out) ?_; (case side1 => exact cB HR0.out); (case side2 => exact HC0.out); intro nd))
  (try simp only [Act.put, List.setIfInBounds_toArray, List.set_cons_zero, List.set_cons_succ])
  go_cut [23] (fun v23 wc => ∃ (kq : Nat) (x23_4 : Bool), v23 = .bool x23_4 ∧ Aside0 (r08_PutTrimmed.j0 kq l0 t380 t381 t382 x23_4 = some (r1, r2)) ∧ Aside0 (kq ≤ k) ∧ Aside0 (Below w.heap.size w wc))
  case first =>
   have H := HC5.out;clear HC5;replace H := qB H;rcases H with ⟨rfl, H⟩ | ⟨rfl, H⟩
   ·
    have H' := aK H;clear H;go_wp2;go_meet
    case rel => exact ⟨_, (decide (t381 > 65535)), gA, H', ⟨oK⟩, ⟨bA⟩⟩
   have H' := aK H;clear H;go_wp2;go_meet
   case rel => exact ⟨_, (false), gA, H', ⟨oK⟩, ⟨bA⟩⟩
  case rest =>
   clear HC5;obtain ⟨kq, x23_4, rfl, HA, HJ4, HB⟩ := hcut;cases kq with
   | zero => exact absurd HA.out (by simp [r08_PutTrimmed.j0])
   | succ kj4 =>
    have H := HA.out;clear HA;simp only [r08_PutTrimmed.j0] at H;replace H := qB H;rcases H with ⟨rfl, H⟩ | ⟨rfl, H⟩
    ·
     obtain ⟨rfl, rfl⟩ := qP H;go_wp2;go_ret2;exact ⟨eA, bA⟩
    have HC9 := aK H;clear H;go_upto_if 24 with (fail)
    go_cut [4, 7] (fun v4 v7 wc => ∃ (kq : Nat) (x4_8 : Int) (x7_8 : Int), v4 = .int .i64 x4_8 ∧ v7 = .int .i64 x7_8 ∧ Aside0 (r08_PutTrimmed.j1 kq l0 x4_8 x7_8 = some (r1, r2)) ∧ Aside0 (kq ≤ kj4) ∧ Aside0 (Below w.heap.size w wc))
    case first =>
     have H := HC9.out;clear HC9;replace H := qB H;rcases H with ⟨rfl, H⟩ | ⟨rfl, H⟩
     ·
      have H' := aK H;clear H;go_wp2;go_meet
      case rel => exact ⟨_, (t380), (wrap64 ((wrap64 (t381 - t380)) + 1)), gA, gA, H', ⟨oK⟩, ⟨bA⟩⟩
     have H' := aK H;clear H;go_wp2;go_meet
     case rel => exact ⟨_, (0), (0), gA, gA, H', ⟨oK⟩, ⟨bA⟩⟩
    case rest =>
     clear HC9;obtain ⟨kq, x4_8, x7_8, rfl, rfl, HA, HJ8, HB⟩ := hcut;cases kq with
     | zero => exact absurd HA.out (by simp [r08_PutTrimmed.j1])
     | succ kj8 =>
      have H := HA.out;clear HA;simp only [r08_PutTrimmed.j1] at H;replace H := qM H;rcases H with ⟨c11b0, H⟩ | ⟨c11b0, H⟩
      ·
       obtain ⟨rfl, rfl⟩ := qP H;go_wp2;go_ret2;exact ⟨eA, bA⟩
      replace H := qS H;obtain ⟨t383, A12, H⟩ := H;replace H := nD H;obtain ⟨c13, c13b0, c13b1, H⟩ := H;try have c13b2 : (9223372036854775807 < 2 + t383.size) = False := eq_false (Nat.not_lt.2 c13)
      replace H := nD H;obtain ⟨c14, c14b0, c14b1, H⟩ := H;try have c14b2 : (9223372036854775807 < ((⟨#[0, 6]⟩ : ByteArray) ++ t383).size + 2) = False := eq_false (Nat.not_lt.2 c14)
      try (have c14b3 := c14b2; simp only [ByteArray.size_append, bs2, bs4, bs8] at c14b3)
      replace H := qS H;obtain ⟨t384, A15, H⟩ := H;replace H := nD H;obtain ⟨c16, c16b0, c16b1, H⟩ := H;try have c16b2 : (9223372036854775807 < (((⟨#[0, 6]⟩ : ByteArray) ++ t383) ++ (⟨#[0, 0]⟩ : ByteArray)).size + t384.size) = False := eq_false (Nat.not_lt.2 c16)
      try (have c16b3 := c16b2; simp only [ByteArray.size_append, bs2, bs4, bs8] at c16b3)
      replace H := qS H;obtain ⟨t385, A17, H⟩ := H;replace H := nD H;obtain ⟨c18, c18b0, c18b1, H⟩ := H;try have c18b2 : (9223372036854775807 < ((((⟨#[0, 6]⟩ : ByteArray) ++ t383) ++ (⟨#[0, 0]⟩ : ByteArray)) ++ t384).size + t385.size) = False := eq_false (Nat.not_lt.2 c18)
      try (have c18b3 := c18b2; simp only [ByteArray.size_append, bs2, bs4, bs8] at c18b3)
      have H' := aK H;clear H;go_wp2_with (first | ((with_reducible refine gate_callee (f := 94) rfl ?_); refine gB_ 34 Tryz.func94 (r03_Bytes.calls kj8 (wrap64 (10 + (wrap64 (2 * x7_8)))) 2 t383 _ A12.out) ?_; clear HB; intro w19 hb HB; clear hb) | ((with_reducible refine gate_callee (f := 94) rfl ?_); refine gB_ 38 Tryz.func94 (r03_Bytes.calls kj8 x4_8 2 t384 _ A15.out) ?_; clear HB; intro w20 hb HB; clear hb) | ((with_reducible refine gate_callee (f := 94) rfl ?_); refine gB_ 41 Tryz.func94 (r03_Bytes.calls kj8 x7_8 2 t385 _ A17.out) ?_; clear HB; intro w21 hb HB; clear hb))
      go_loopg [8, 9] kj8 (fun kq v8 v9 w' => ∃ (x8_3 : ByteArray) (x9_3 : Int), v8 = .string x8_3 ∧ v9 = .int .i64 x9_3 ∧ Aside0 (r08_PutTrimmed.l0 kq l0 x4_8 x7_8 x8_3 x9_3 = some (r1, r2)) ∧ Aside0 (kq ≤ kj8) ∧ Aside0 (Below w.heap.size w w'))
      case atStart => exact ⟨(((((⟨#[0, 6]⟩ : ByteArray) ++ t383) ++ (⟨#[0, 0]⟩ : ByteArray)) ++ t384) ++ t385), (0), gA, gA, H', ⟨Nat.le_refl _⟩, ⟨bA⟩⟩
      case round =>
       clear H';obtain ⟨x8_3, x9_3, rfl, rfl, HA, HK3, HB⟩ := hrel;cases gk with
       | zero => exact absurd HA.out (by simp [r08_PutTrimmed.l0])
       | succ k3 =>
        have H := HA.out;clear HA;simp only [r08_PutTrimmed.l0] at H;replace H := qL H;rcases H with ⟨c22b0, H⟩ | ⟨c22b0, H⟩
        ·
         replace H := qS H;obtain ⟨t386, A23, H⟩ := H;replace H := qS H;obtain ⟨t387, A24, H⟩ := H;replace H := nD H;obtain ⟨c25, c25b0, c25b1, H⟩ := H;try have c25b2 : (9223372036854775807 < x8_3.size + t387.size) = False := eq_false (Nat.not_lt.2 c25)
         have H' := aK H;clear H;go_wp2_with (first | ((with_reducible refine gate_callee (f := 71) rfl ?_); refine gD_ 53 Tryz.func71 (r08_look.calls k3 _ _ l0 (wrap64 (x4_8 + x9_3)) t386 _ ?side1 ?side2 A23.out) ?_; (case side1 => exact cB HR0.out); (case side2 => exact HC0.out); intro nd) | ((with_reducible refine gate_callee (f := 94) rfl ?_); refine gB_ 54 Tryz.func94 (r03_Bytes.calls k3 t386 2 t387 _ A24.out) ?_; clear HB; intro w26 hb HB; clear hb))
         go_roundg k3
         case measure => exact oK
         case rel => exact ⟨(x8_3 ++ t387), (wrap64 (x9_3 + 1)), gA, gA, H', ⟨oK⟩, ⟨bA⟩⟩
        obtain ⟨rfl, rfl⟩ := qP H;go_wp2;go_ret2;exact ⟨eA, bA⟩
 obtain ⟨rfl, rfl⟩ := qP H;go_enter Tryz.func64, Tryz.ntmps64;go_wp2_with (first | ((with_reducible refine gate_callee (f := 35) rfl ?_); refine gB_ 11 Tryz.func35 (r08_Is.calls k _ _ l0 false _ ?side1 ?side2 A2.out) ?_; (case side1 => exact cA HR0.out); (case side2 => exact HC0.out); clear HB; intro w27 hb HB; clear hb))
 go_ret2;exact ⟨eA, bA⟩
theorem eqA61 (d : Nat) (w : World) (x0 y0 : Int) (x1 y1 : Int) (x2 y2 : Int) (x3 y3 : Int) :
  (Op.equalIn (d + 2) 61 (.agg #[.int .i64 x0, .int .i64 x1, .int .i64 x2, .int .i64 x3]) (.agg #[.int .i64 y0, .int .i64 y1, .int .i64 y2, .int .i64 y3])).run Tryz.prog w = .ok (x0 == y0 && (x1 == y1 && (x2 == y2 && (x3 == y3)))) w := by
 refine eqA_of Tryz.underlying61 (by kernel_rfl) ?_;refine eqf_cons (by rfl) (by go_simp; rfl) (by go_simp; rfl) (by go_simp) ?_;refine eqf_cons (by rfl) (by go_simp; rfl) (by go_simp; rfl) (by go_simp) ?_;refine eqf_cons (by rfl) (by go_simp; rfl) (by go_simp; rfl) (by go_simp) ?_;exact eqf_last (by rfl) (by go_simp; rfl) (by go_simp; rfl) (by go_simp)
attribute [local go_sem high] eqA61
def r08_Look.f (k : Nat) (l0 : List (S61)) (a1 : Int) : Option (Int) := (r08_Is.f k l0).bind fun t480 => (if t480 = true then ((r08_look.f k l0 a1).bind fun t481 => (some t481)) else (some 0))
theorem r08_Look.calls (k : Nat) (A0 : Option Addr) (c0 : Nat) (l0 : List (S61)) (a1 : Int) (r : Int) (w : World) (hr0 : Kd.C k61 w A0 l0.length l0) (hc0 : l0.length ≤ c0) (h : r08_Look.f k l0 a1 = some r) :
  Calls Tryz.prog 36 #[.slice A0 l0.length c0, .int .i64 a1] w fun e w' => e = .returned (.int .i64 r) ∧ Below w.heap.size w w' := by
 have HR0 := aK hr0;have HC0 := aK hc0;clear hr0 hc0;have HB := aK (Below.refl w.heap.size w);have H : ((r08_Is.f k l0).bind fun t480 => (if t480 = true then ((r08_look.f k l0 a1).bind fun t481 => (some t481)) else (some 0))) = some r := h;clear h;replace H := qS H;obtain ⟨t480, A3, H⟩ := H;replace H := qB H;rcases H with ⟨rfl, H⟩ | ⟨rfl, H⟩
 ·
  replace H := qS H;obtain ⟨t481, A5, H⟩ := H;obtain rfl := Option.some.inj H;go_enter Tryz.func36, Tryz.ntmps36;go_wp2_with (first | ((with_reducible refine gate_callee (f := 35) rfl ?_); refine gB_ 6 Tryz.func35 (r08_Is.calls k _ _ l0 true _ ?side1 ?side2 A3.out) ?_; (case side1 => exact cA HR0.out); (case side2 => exact HC0.out); clear HB; intro w6 hb HB; clear hb) | ((with_reducible refine gate_callee (f := 71) rfl ?_); refine gD_ 10 Tryz.func71 (r08_look.calls k _ _ l0 a1 t481 _ ?side1 ?side2 A5.out) ?_; (case side1 => exact cB HR0.out); (case side2 => exact HC0.out); intro nd))
  go_ret;exact ⟨eA, bA⟩
 obtain rfl := Option.some.inj H;go_enter Tryz.func36, Tryz.ntmps36;go_wp2_with (first | ((with_reducible refine gate_callee (f := 35) rfl ?_); refine gB_ 6 Tryz.func35 (r08_Is.calls k _ _ l0 false _ ?side1 ?side2 A3.out) ?_; (case side1 => exact cA HR0.out); (case side2 => exact HC0.out); clear HB; intro w7 hb HB; clear hb))
 go_ret;exact ⟨eA, bA⟩
def r08_Same.l0 : Nat → List (S61) → List (S61) → Int → Option (Bool)
 | 0, _, _, _ => none
 | k + 1, x0, x1, x5 => if x5 < (x0.length : Int) then (if 0 ≤ x5 then (if x5 < (x1.length : Int) then (if (!(((rd_T61 x0 x5).f0) == ((rd_T61 x1 x5).f0)) || (!(((rd_T61 x0 x5).f1) == ((rd_T61 x1 x5).f1)) || (!(((rd_T61 x0 x5).f2) == ((rd_T61 x1 x5).f2)) || (!(((rd_T61 x0 x5).f3) == ((rd_T61 x1 x5).f3)))))) = true then (some false) else (r08_Same.l0 k x0 x1 (wrap64 (x5 + 1)))) else (none)) else (none)) else (some true)
def r08_Same.f (k : Nat) (l0 : List (S61)) (l1 : List (S61)) : Option (Bool) := if (l0.length : Int) = (l1.length : Int) then (r08_Same.l0 k l0 l1 0) else (some false)
theorem r08_Same.calls (k : Nat) (A0 : Option Addr) (c0 : Nat) (l0 : List (S61)) (A1 : Option Addr) (c1 : Nat) (l1 : List (S61)) (r : Bool) (w : World) (hr0 : Kd.C k61 w A0 l0.length l0) (hc0 : l0.length ≤ c0) (hr1 : Kd.C k61 w A1 l1.length l1) (hc1 : l1.length ≤ c1) (h : r08_Same.f k l0 l1 = some r) :
  Calls Tryz.prog 14 #[.slice A0 l0.length c0, .slice A1 l1.length c1] w fun e w' => e = .returned (.bool r) ∧ Drawn0 w w' := by
 have hu61 := Tryz.underlying61;have HR0 := aK hr0;have HC0 := aK hc0;clear hr0 hc0;have HR1 := aK hr1;have HC1 := aK hc1;clear hr1 hc1;have H : (if (l0.length : Int) = (l1.length : Int) then (r08_Same.l0 k l0 l1 0) else (some false)) = some r := h;clear h;replace H := qC H;rcases H with ⟨c3, H⟩ | ⟨c3, H⟩
 ·
  have c3b0 : ((l0.length : Int) == (l1.length : Int)) = true := beq_iff_eq.mpr c3;have c3b1 : ((l0.length : Int) != (l1.length : Int)) = false := bne_eq_false_iff_eq.mpr c3;have c3b2 : (l0.length == l1.length) = true := by first | simpa using c3 | (simp at c3 ⊢; omega)
  clear c3;have H' := aK H;clear H;go_enter Tryz.func14, Tryz.ntmps14;go_wp2;go_loopg [5] k (fun kq v5 w' => ∃ (x5_1 : Int), v5 = .int .i64 x5_1 ∧ Aside0 (r08_Same.l0 kq l0 l1 x5_1 = some r) ∧ Aside0 (kq ≤ k) ∧ Drawn0 w w')
  case atStart => exact ⟨(0), gA, H', ⟨Nat.le_refl _⟩, by repeat (first | exact Drawn0.refl _ | apply Drawn0.step)⟩
  case round =>
   clear H';obtain ⟨x5_1, rfl, HA, HK1, ⟨m1, rfl⟩⟩ := hrel;cases gk with
   | zero => exact absurd HA.out (by simp [r08_Same.l0])
   | succ k1 =>
    have H := HA.out;clear HA;simp only [r08_Same.l0] at H;replace H := qL H;rcases H with ⟨c4b0, H⟩ | ⟨c4b0, H⟩
    ·
     replace H := nL H;obtain ⟨c5b0, H⟩ := H;replace H := nL H;obtain ⟨c6b0, H⟩ := H;replace H := qC H;rcases H with ⟨c7, H⟩ | ⟨c7, H⟩
     ·
      have c7b0 : (!(((rd_T61 l0 x5_1).f0) == ((rd_T61 l1 x5_1).f0)) || (!(((rd_T61 l0 x5_1).f1) == ((rd_T61 l1 x5_1).f1)) || (!(((rd_T61 l0 x5_1).f2) == ((rd_T61 l1 x5_1).f2)) || (!(((rd_T61 l0 x5_1).f3) == ((rd_T61 l1 x5_1).f3)))))) = true := c7;clear c7;obtain rfl := Option.some.inj H;obtain ⟨p484, q484, ad484, e484, hx484_0, hx484_1, hx484_2, hx484_3⟩ := aT (at_T61 HR0.out x5_1);cases e484
      obtain ⟨p485, q485, ad485, e485, hx485_0, hx485_1, hx485_2, hx485_3⟩ := aT (at_T61 HR1.out x5_1);cases e485
      go_wp2;repeat (go_quiet (fail); try go_wp2)
      go_ret;exact ⟨by first | rfl | (simp; done) | (simp [*]; done), by repeat (first | exact Drawn0.refl _ | apply Drawn0.step)⟩
     have c7b0 : (!(((rd_T61 l0 x5_1).f0) == ((rd_T61 l1 x5_1).f0)) || (!(((rd_T61 l0 x5_1).f1) == ((rd_T61 l1 x5_1).f1)) || (!(((rd_T61 l0 x5_1).f2) == ((rd_T61 l1 x5_1).f2)) || (!(((rd_T61 l0 x5_1).f3) == ((rd_T61 l1 x5_1).f3)))))) = false := by simpa using c7
     clear c7;have H' := aK H;clear H;obtain ⟨p484, q484, ad484, e484, hx484_0, hx484_1, hx484_2, hx484_3⟩ := aT (at_T61 HR0.out x5_1);cases e484
     obtain ⟨p485, q485, ad485, e485, hx485_0, hx485_1, hx485_2, hx485_3⟩ := aT (at_T61 HR1.out x5_1);cases e485
     go_wp2;repeat (go_quiet (fail); try go_wp2)
     go_roundg k1
     case measure => exact oK
     case rel => exact ⟨(wrap64 (x5_1 + 1)), gA, H', ⟨oK⟩, by repeat (first | exact Drawn0.refl _ | apply Drawn0.step)⟩
    obtain rfl := Option.some.inj H;go_wp2;go_ret;exact ⟨by first | rfl | (simp; done) | (simp [*]; done), by repeat (first | exact Drawn0.refl _ | apply Drawn0.step)⟩
 have c3b0 : ((l0.length : Int) == (l1.length : Int)) = false := beq_eq_false_iff_ne.mpr c3;have c3b1 : ((l0.length : Int) != (l1.length : Int)) = true := bne_iff_ne.mpr c3;have c3b2 : (l0.length == l1.length) = false := by first | simpa using c3 | (simp at c3 ⊢; omega)
 obtain rfl := Option.some.inj H;go_enter Tryz.func14, Tryz.ntmps14;go_wp2;go_ret;exact ⟨by first | rfl | (simp; done) | (simp [*]; done), by repeat (first | exact Drawn0.refl _ | apply Drawn0.step)⟩
end Go.Proofs.YtejdflndgnpkcaaGreat.P
end
section
namespace Go.Proofs.YtejdflndgnpkcaaGreat.P
open Go.RowKit PW PL PM
attribute [local go_sem] max2_int min2_int max_two min_two max_three min_three max_four min_four
mutual
def r09_Short.l0 : Nat → List (S61) → Int → Int → Option (Bool)
 | 0, _, _, _ => none
 | k + 1, x0, x3, x4 => if x4 < (x0.length : Int) then (r09_Short.j1 k x0 x3 x4 (decide ((x0.length : Int) ≤ 60))) else (r09_Short.j1 k x0 x3 x4 false)
def r09_Short.j1 : Nat → List (S61) → Int → Int → Bool → Option (Bool)
 | 0, _, _, _, _ => none
 | k + 1, x0, x3, x4, x13 => if x13 = true then (if 0 ≤ x4 then (if x4 < (x0.length : Int) then (if (wrap64 (((rd_T61 x0 x4).f1) - ((rd_T61 x0 x4).f0))) > 40000 then (r09_Short.l0 k x0 x3 (wrap64 (x4 + 1))) else (r09_Short.l0 k x0 (wrap64 ((wrap64 (x3 + ((rd_T61 x0 x4).f1))) - ((rd_T61 x0 x4).f0))) (wrap64 (x4 + 1)))) else (none)) else (none)) else (if (x0.length : Int) ≤ 60 then (some (decide (x3 ≤ 3000))) else (some false))
end
def r09_Short.f (k : Nat) (l0 : List (S61)) : Option (Bool) := r09_Short.l0 k l0 0 0
theorem r09_Short.calls (k : Nat) (A0 : Option Addr) (c0 : Nat) (l0 : List (S61)) (r : Bool) (w : World) (hr0 : Kd.C k61 w A0 l0.length l0) (hc0 : l0.length ≤ c0) (h : r09_Short.f k l0 = some r) :
  Calls Tryz.prog 18 #[.slice A0 l0.length c0] w fun e w' => e = .returned (.bool r) ∧ Drawn0 w w' := by
 have HR0 := aK hr0;have HC0 := aK hc0;clear hr0 hc0;have H : (r09_Short.l0 k l0 0 0) = some r := h;clear h;have H' := aK H;clear H;go_enter Tryz.func18, Tryz.ntmps18;go_wp2;go_loopg [3, 4] k (fun kq v3 v4 w' => ∃ (x3_1 : Int) (x4_1 : Int), v3 = .int .i64 x3_1 ∧ v4 = .int .i64 x4_1 ∧ Aside0 (r09_Short.l0 kq l0 x3_1 x4_1 = some r) ∧ Aside0 (kq ≤ k) ∧ Drawn0 w w')
 case atStart => exact ⟨(0), (0), gA, gA, H', ⟨Nat.le_refl _⟩, by repeat (first | exact Drawn0.refl _ | apply Drawn0.step)⟩
 case round =>
  clear H';obtain ⟨x3_1, x4_1, rfl, rfl, HA, HK1, ⟨m1, rfl⟩⟩ := hrel;cases gk with
  | zero => exact absurd HA.out (by simp [r09_Short.l0])
  | succ k1 =>
   have H := HA.out;clear HA;simp only [r09_Short.l0] at H;have HC2 := aK H;clear H;go_upto_region 3 with (fail)
   go_cut [13] (fun v13 wc => ∃ (kq : Nat) (x13_1 : Bool), v13 = .bool x13_1 ∧ Aside0 (r09_Short.j1 kq l0 x3_1 x4_1 x13_1 = some r) ∧ Aside0 (kq ≤ k1) ∧ Drawn0 w wc)
   case first =>
    have H := HC2.out;clear HC2;replace H := qL H;rcases H with ⟨c3b0, H⟩ | ⟨c3b0, H⟩
    ·
     (first | rw [c3b0] | (simp only [i64_w, i32_w]; rw [c3b0]) | skip)
     have H' := aK H;clear H;go_wp2;go_meet
     case rel => exact ⟨_, (decide ((l0.length : Int) ≤ 60)), gA, H', ⟨oK⟩, by repeat (first | exact Drawn0.refl _ | apply Drawn0.step)⟩
    (first | rw [c3b0] | (simp only [i64_w, i32_w]; rw [c3b0]) | skip)
    have H' := aK H;clear H;go_wp2;go_meet
    case rel => exact ⟨_, (false), gA, H', ⟨oK⟩, by repeat (first | exact Drawn0.refl _ | apply Drawn0.step)⟩
   case rest =>
    clear HC2;obtain ⟨kq, x13_1, rfl, HA, HJ1, ⟨mc1, rfl⟩⟩ := hcut;cases kq with
    | zero => exact absurd HA.out (by simp [r09_Short.j1])
    | succ kj1 =>
     have H := HA.out;clear HA;simp only [r09_Short.j1] at H;replace H := qB H;rcases H with ⟨rfl, H⟩ | ⟨rfl, H⟩
     ·
      replace H := nL H;obtain ⟨c5b0, H⟩ := H;replace H := nL H;obtain ⟨c6b0, H⟩ := H;replace H := qM H;rcases H with ⟨c7b0, H⟩ | ⟨c7b0, H⟩
      ·
       have H' := aK H;clear H;obtain ⟨p118, q118, ad118, e118, hx118_0, hx118_1, hx118_2, hx118_3⟩ := aT (at_T61 HR0.out x4_1);cases e118
       obtain ⟨p119, q119, ad119, e119, hx119_0, hx119_1, hx119_2, hx119_3⟩ := aT (at_T61 HR0.out x4_1);obtain rfl : ad118 = ad119 := (by injection e119);go_wp2;repeat (go_quiet (fail); try go_wp2)
       go_roundg kj1
       case measure => exact oK
       case rel => exact ⟨(x3_1), (wrap64 (x4_1 + 1)), gA, gA, H', ⟨oK⟩, by repeat (first | exact Drawn0.refl _ | apply Drawn0.step)⟩
      have H' := aK H;clear H;obtain ⟨p118, q118, ad118, e118, hx118_0, hx118_1, hx118_2, hx118_3⟩ := aT (at_T61 HR0.out x4_1);cases e118
      obtain ⟨p119, q119, ad119, e119, hx119_0, hx119_1, hx119_2, hx119_3⟩ := aT (at_T61 HR0.out x4_1);obtain rfl : ad118 = ad119 := (by injection e119);obtain ⟨p120, q120, ad120, e120, hx120_0, hx120_1, hx120_2, hx120_3⟩ := aT (at_T61 HR0.out x4_1);obtain rfl : ad118 = ad120 := (by injection e120);obtain ⟨p121, q121, ad121, e121, hx121_0, hx121_1, hx121_2, hx121_3⟩ := aT (at_T61 HR0.out x4_1);obtain rfl : ad118 = ad121 := (by injection e121);go_wp2;repeat (go_quiet (fail); try go_wp2)
      go_roundg kj1
      case measure => exact oK
      case rel => exact ⟨(wrap64 ((wrap64 (x3_1 + ((rd_T61 l0 x4_1).f1))) - ((rd_T61 l0 x4_1).f0))), (wrap64 (x4_1 + 1)), gA, gA, H', ⟨oK⟩, by repeat (first | exact Drawn0.refl _ | apply Drawn0.step)⟩
     replace H := qC H;rcases H with ⟨c8, H⟩ | ⟨c8, H⟩
     ·
      have c8b0 : decide ((l0.length : Int) ≤ 60) = true := decide_eq_true c8;have c8b1 : decide (l0.length ≤ 60) = true := decide_eq_true (by omega);clear c8;obtain rfl := Option.some.inj H;go_wp2;go_ret;exact ⟨by first | rfl | (simp; done) | (simp [*]; done), by repeat (first | exact Drawn0.refl _ | apply Drawn0.step)⟩
     have c8b0 : decide ((l0.length : Int) ≤ 60) = false := decide_eq_false c8;have c8b1 : decide (l0.length ≤ 60) = false := decide_eq_false (by omega);clear c8;obtain rfl := Option.some.inj H;go_wp2;go_ret;exact ⟨by first | rfl | (simp; done) | (simp [*]; done), by repeat (first | exact Drawn0.refl _ | apply Drawn0.step)⟩
def r09_word.f (k : Nat) (a0 : ByteArray) (a1 : Int) : Option (Int) := if 0 ≤ a1 then (if a1 ≤ (wrap64 (a1 + 2)) then (if (wrap64 (a1 + 2)) ≤ (a0.size : Int) then ((r03_One.f k (a0.extract (a1 : Int).toNat ((wrap64 (a1 + 2)) : Int).toNat) 2).bind fun t245 => (some t245)) else (none)) else (none)) else (none)
theorem r09_word.calls (k : Nat) (a0 : ByteArray) (a1 : Int) (r : Int) (w : World) (h : r09_word.f k a0 a1 = some r) :
  Calls Tryz.prog 56 #[.string a0, .int .i64 a1] w fun e w' => e = .returned (.int .i64 r) ∧ Drawn0 w w' := by
 have H : (if 0 ≤ a1 then (if a1 ≤ (wrap64 (a1 + 2)) then (if (wrap64 (a1 + 2)) ≤ (a0.size : Int) then ((r03_One.f k (a0.extract (a1 : Int).toNat ((wrap64 (a1 + 2)) : Int).toNat) 2).bind fun t245 => (some t245)) else (none)) else (none)) else (none)) = some r := h;clear h;replace H := nD H;obtain ⟨c3, c3b0, c3b1, H⟩ := H;clear c3;replace H := nD H;obtain ⟨c4, c4b0, c4b1, H⟩ := H;replace H := nD H;obtain ⟨c5, c5b0, c5b1, H⟩ := H;replace H := qS H;obtain ⟨t245, A6, H⟩ := H;obtain rfl := Option.some.inj H;go_enter Tryz.func56, Tryz.ntmps56;go_wp2_with (first | ((with_reducible refine gate_callee (f := 26) rfl ?_); refine gD_ 10 Tryz.func26 (r03_One.calls k (a0.extract (a1 : Int).toNat ((wrap64 (a1 + 2)) : Int).toNat) 2 t245 _ A6.out) ?_; intro nd))
 go_ret;exact ⟨by first | rfl | (simp; done) | (simp [*]; done), by repeat (first | exact Drawn0.refl _ | apply Drawn0.step)⟩
def r09_plane.f (a0 : Int) : Option (Int) := if a0 ≥ 65536 then (some (wrap64 (a0 - 65536))) else (some a0)
theorem r09_plane.calls (a0 : Int) (r : Int) (w : World) (h : r09_plane.f a0 = some r) :
  Calls Tryz.prog 92 #[.int .i64 a0] w fun e w' => e = .returned (.int .i64 r) ∧ Drawn0 w w' := by
 have H : (if a0 ≥ 65536 then (some (wrap64 (a0 - 65536))) else (some a0)) = some r := h;clear h;replace H := qG H;rcases H with ⟨c2b0, H⟩ | ⟨c2b0, H⟩
 ·
  obtain rfl := Option.some.inj H;go_enter Tryz.func92, Tryz.ntmps92;go_wp2;go_ret;exact ⟨by first | rfl | (simp; done) | (simp [*]; done), by repeat (first | exact Drawn0.refl _ | apply Drawn0.step)⟩
 obtain rfl := Option.some.inj H;go_enter Tryz.func92, Tryz.ntmps92;go_wp2;go_ret;exact ⟨by first | rfl | (simp; done) | (simp [*]; done), by repeat (first | exact Drawn0.refl _ | apply Drawn0.step)⟩
def r09_near.f (a0 : Int) (a1 : Int) (a2 : Int) : Option ((List (S61))) := (r09_plane.f (wrap64 (a0 + a2))).bind fun t246 => (if (wrap64 ((wrap64 (t246 + a1)) - a0)) ≤ 65535 then (if ([] : List (S61)).length < 4398046511104 then (some (([] : List (S61)) ++ [(⟨a0, a1, t246, 1⟩ : S61)])) else (none)) else (if ([] : List (S61)).length < 4398046511104 then ((some (([] : List (S61)) ++ [(⟨a0, wrap64 ((wrap64 (a0 + 65535)) - t246), t246, 1⟩ : S61)] : List (S61))).bind fun y250 => (if y250.length < 4398046511104 then (some (y250 ++ [(⟨wrap64 ((wrap64 ((wrap64 (a0 + 65535)) - t246)) + 1), a1, 0, 1⟩ : S61)])) else (none))) else (none)))
theorem r09_near.calls (a0 : Int) (a1 : Int) (a2 : Int) (r : List (S61)) (w : World) (h : r09_near.f a0 a1 a2 = some r) :
  Calls Tryz.prog 57 #[.int .i64 a0, .int .i64 a1, .int .i64 a2] w fun e w' => ∃ v0_ : Value, e = .returned (v0_) ∧ Kd.R k61 61 w' w.heap.size (fun _ => True) v0_ r ∧ Below w.heap.size w w' := by
 have hu61 := Tryz.underlying61;have HB := aK (Below.refl w.heap.size w);have H : ((r09_plane.f (wrap64 (a0 + a2))).bind fun t246 => (if (wrap64 ((wrap64 (t246 + a1)) - a0)) ≤ 65535 then (if ([] : List (S61)).length < 4398046511104 then (some (([] : List (S61)) ++ [(⟨a0, a1, t246, 1⟩ : S61)])) else (none)) else (if ([] : List (S61)).length < 4398046511104 then ((some (([] : List (S61)) ++ [(⟨a0, wrap64 ((wrap64 (a0 + 65535)) - t246), t246, 1⟩ : S61)] : List (S61))).bind fun y250 => (if y250.length < 4398046511104 then (some (y250 ++ [(⟨wrap64 ((wrap64 ((wrap64 (a0 + 65535)) - t246)) + 1), a1, 0, 1⟩ : S61)])) else (none))) else (none)))) = some r := h;clear h;replace H := qS H;obtain ⟨t246, A4, H⟩ := H;replace H := qL H;rcases H with ⟨c5b0, H⟩ | ⟨c5b0, H⟩
 ·
  replace H := nC H;obtain ⟨c6, H⟩ := H;have LMc6 := aK c6;clear c6;obtain ⟨y247, hy247⟩ : ∃ y_ : List (S61), y_ = (([] : List (S61)) ++ [(⟨a0, a1, t246, 1⟩ : S61)]) := ⟨_, rfl⟩;replace H : (some y247) = some r := by rw [hy247]; exact H
  have Ny247 := aK hy247;clear hy247;obtain rfl := Option.some.inj H;go_enter Tryz.func57, Tryz.ntmps57;go_wp2_with (first | ((with_reducible refine gate_callee (f := 92) rfl ?_); refine gD_ 13 Tryz.func92 (r09_plane.calls (wrap64 (a0 + a2)) t246 _ A4.out) ?_; intro nd) | ((with_reducible refine gate_builtin (b := .append) (xs := #[.tmp 20, .tmp 25]) rfl ?_); at_builtin; refine Kd.R_append k61 (w0 := w) w.heap.size rfl (.tmp 20) (.tmp 25) 22 61 (.agg #[(.int .i64 0), (.int .i64 0), (.int .i64 0), (.int .i64 0)]) 32 rfl Tryz.underlying22 info61 rfl (by decide) (by omega) (.slice none 0 0) ([] : List (S61)) (⟨a0, a1, t246, 1⟩ : S61) [.int .i64 a0, .int .i64 a1, .int .i64 t246, .int .i64 1] (fun _ => True) (fun _ => False) rfl rfl ?aP (fun _ hk => hk.elim) ?aF ?aO ?aB ?aS ?aL ?_; (case aP => exact k61_mkM _ _ _ (⟨a0, a1, t246, 1⟩ : S61)); (case aB => exact bA); (case aF => exact (fun _ _ => trivial)); (case aO => exact ((Kd.R_nil _ _ _ _ (fun _ => True)))); (case aS => exact (below_size bA)); (case aL => have := LMc6.out; omega); intro v248 w7 ho hb hg hat; rw [← Ny247.out] at ho; have HO249 := aK (ho); replace HB := aK (hb); clear ho hb hg hat))
  go_ret;exact ⟨_, eA, rA HO249.out, bA⟩
 replace H := nC H;obtain ⟨c8, H⟩ := H;have LMc8 := aK c8;clear c8;replace H := yE H;obtain ⟨y250, hy250, H⟩ := H;have Ny250 := aK hy250;clear hy250;replace H := nC H;obtain ⟨c9, H⟩ := H;have LMc9 := aK c9;clear c9;obtain ⟨y253, hy253⟩ : ∃ y_ : List (S61), y_ = (y250 ++ [(⟨wrap64 ((wrap64 ((wrap64 (a0 + 65535)) - t246)) + 1), a1, 0, 1⟩ : S61)]) := ⟨_, rfl⟩;replace H : (some y253) = some r := by rw [hy253]; exact H
 have Ny253 := aK hy253;clear hy253;obtain rfl := Option.some.inj H;go_enter Tryz.func57, Tryz.ntmps57;go_wp2_with (first | ((with_reducible refine gate_callee (f := 92) rfl ?_); refine gD_ 13 Tryz.func92 (r09_plane.calls (wrap64 (a0 + a2)) t246 _ A4.out) ?_; intro nd) | ((with_reducible refine gate_builtin (b := .append) (xs := #[.tmp 31, .tmp 36]) rfl ?_); at_builtin; refine Kd.R_append k61 (w0 := w) w.heap.size rfl (.tmp 31) (.tmp 36) 22 61 (.agg #[(.int .i64 0), (.int .i64 0), (.int .i64 0), (.int .i64 0)]) 32 rfl Tryz.underlying22 info61 rfl (by decide) (by omega) (.slice none 0 0) ([] : List (S61)) (⟨a0, wrap64 ((wrap64 (a0 + 65535)) - t246), t246, 1⟩ : S61) [.int .i64 a0, .int .i64 (wrap64 ((wrap64 (a0 + 65535)) - t246)), .int .i64 t246, .int .i64 1] (fun _ => True) (fun _ => False) rfl rfl ?aP (fun _ hk => hk.elim) ?aF ?aO ?aB ?aS ?aL ?_; (case aP => exact k61_mkM _ _ _ (⟨a0, wrap64 ((wrap64 (a0 + 65535)) - t246), t246, 1⟩ : S61)); (case aB => exact bA); (case aF => exact (fun _ _ => trivial)); (case aO => exact ((Kd.R_nil _ _ _ _ (fun _ => True)))); (case aS => exact (below_size bA)); (case aL => have := LMc8.out; omega); intro v251 w10 ho hb hg hat; rw [← Ny250.out] at ho; have HO252 := aK (ho); replace HB := aK (hb); clear ho hb hg hat) | ((with_reducible refine gate_builtin (b := .append) (xs := #[.tmp 38, .tmp 43]) rfl ?_); at_builtin; refine Kd.R_append k61 (w0 := w) w.heap.size rfl (.tmp 38) (.tmp 43) 22 61 (.agg #[(.int .i64 0), (.int .i64 0), (.int .i64 0), (.int .i64 0)]) 32 rfl Tryz.underlying22 info61 rfl (by decide) (by omega) v251 y250 (⟨wrap64 ((wrap64 ((wrap64 (a0 + 65535)) - t246)) + 1), a1, 0, 1⟩ : S61) [.int .i64 (wrap64 ((wrap64 ((wrap64 (a0 + 65535)) - t246)) + 1)), .int .i64 a1, .int .i64 0, .int .i64 1] (fun _ => True) (fun _ => False) rfl rfl ?aP (fun _ hk => hk.elim) ?aF ?aO ?aB ?aS ?aL ?_; (case aP => exact k61_mkM _ _ _ (⟨wrap64 ((wrap64 ((wrap64 (a0 + 65535)) - t246)) + 1), a1, 0, 1⟩ : S61)); (case aB => exact bA); (case aF => exact (fun _ _ => trivial)); (case aO => exact (rA HO252.out)); (case aS => exact (below_size bA)); (case aL => have := LMc9.out; omega); intro v254 w11 ho hb hg hat; rw [← Ny253.out] at ho; have n0_ := aK (hb); have n1_ := aK (ho); clear HB; clear HO252; have HB := n0_; have HO255 := n1_; clear n0_ n1_; clear ho hb hg hat))
 go_ret;exact ⟨_, eA, rA HO255.out, bA⟩
def r09_far.l0 : Nat → ByteArray → Int → Int → Int → Int → List (S61) → Int → Option ((List (S61)) × Int)
 | 0, _, _, _, _, _, _, _ => none
 | k + 1, x0, x1, x2, x3, x4, x12, x13 => if x13 ≤ x2 then ((r09_word.f k x0 x4).bind fun t256 => (if (wrap64 ((wrap64 ((wrap64 (x4 + t256)) + (wrap64 (2 * (wrap64 (x13 - x1)))))) + 2)) > (x0.size : Int) then (some (([] : List (S61)), 4)) else ((r09_word.f k x0 (wrap64 ((wrap64 (x4 + t256)) + (wrap64 (2 * (wrap64 (x13 - x1))))))).bind fun t257 => ((r09_plane.f (wrap64 (t257 + x3))).bind fun t258 => (if t257 > 0 then (if t258 > 0 then (if x12.length < 4398046511104 then (r09_far.l0 k x0 x1 x2 x3 x4 (x12 ++ [(⟨x13, x13, t258, 1⟩ : S61)]) (wrap64 (x13 + 1))) else (none)) else (r09_far.l0 k x0 x1 x2 x3 x4 x12 (wrap64 (x13 + 1)))) else (r09_far.l0 k x0 x1 x2 x3 x4 x12 (wrap64 (x13 + 1)))))))) else (some (x12, 0))
def r09_far.f (k : Nat) (a0 : ByteArray) (a1 : Int) (a2 : Int) (a3 : Int) (a4 : Int) : Option ((List (S61)) × Int) := r09_far.l0 k a0 a1 a2 a3 a4 ([] : List (S61)) a1
theorem r09_far.calls (k : Nat) (a0 : ByteArray) (a1 : Int) (a2 : Int) (a3 : Int) (a4 : Int) (r1 : List (S61)) (r2 : Int) (w : World) (h : r09_far.f k a0 a1 a2 a3 a4 = some (r1, r2)) :
  Calls Tryz.prog 58 #[.string a0, .int .i64 a1, .int .i64 a2, .int .i64 a3, .int .i64 a4] w fun e w' => ∃ v0_ : Value, e = .returned (.tuple #[v0_, .int .i64 r2]) ∧ Kd.R k61 61 w' w.heap.size (fun _ => True) v0_ r1 ∧ Below w.heap.size w w' := by
 have hu61 := Tryz.underlying61;have HB := aK (Below.refl w.heap.size w);have H : (r09_far.l0 k a0 a1 a2 a3 a4 ([] : List (S61)) a1) = some (r1, r2) := h;clear h;have H' := aK H;clear H;go_enter Tryz.func58, Tryz.ntmps58;go_wp2;go_loopg [12, 13] k (fun kq v12 v13 w' => ∃ (x12_1 : List (S61)) (x13_1 : Int), v13 = .int .i64 x13_1 ∧ Aside0 (r09_far.l0 kq a0 a1 a2 a3 a4 x12_1 x13_1 = some (r1, r2)) ∧ Aside0 (kq ≤ k) ∧ Aside0 (Kd.R k61 61 w' w.heap.size (fun _ => True) v12 x12_1) ∧ Aside0 (Below w.heap.size w w'))
 case atStart => exact ⟨(([] : List (S61))), (a1), gA, H', ⟨Nat.le_refl _⟩, ⟨nA⟩, ⟨bA⟩⟩
 case round =>
  clear H';obtain ⟨x12_1, x13_1, rfl, HA, HK1, HO_12, HB⟩ := hrel;cases gk with
  | zero => exact absurd HA.out (by simp [r09_far.l0])
  | succ k1 =>
   have H := HA.out;clear HA;simp only [r09_far.l0] at H;replace H := qL H;rcases H with ⟨c6b0, H⟩ | ⟨c6b0, H⟩
   ·
    replace H := qS H;obtain ⟨t256, A7, H⟩ := H;replace H := qM H;rcases H with ⟨c8b0, H⟩ | ⟨c8b0, H⟩
    ·
     obtain ⟨rfl, rfl⟩ := qP H;go_wp2_with (first | ((with_reducible refine gate_callee (f := 56) rfl ?_); refine gD_ 26 Tryz.func56 (r09_word.calls k1 a0 a4 t256 _ A7.out) ?_; intro nd))
     go_ret2;exact ⟨_, eA, nA, bA⟩
    replace H := qS H;obtain ⟨t257, A9, H⟩ := H;replace H := qS H;obtain ⟨t258, A10, H⟩ := H;replace H := qM H;rcases H with ⟨c11b0, H⟩ | ⟨c11b0, H⟩
    ·
     replace H := qM H;rcases H with ⟨c12b0, H⟩ | ⟨c12b0, H⟩
     ·
      replace H := nC H;obtain ⟨c13, H⟩ := H;have LMc13 := aK c13;clear c13;obtain ⟨y259, hy259⟩ : ∃ y_ : List (S61), y_ = (x12_1 ++ [(⟨x13_1, x13_1, t258, 1⟩ : S61)]) := ⟨_, rfl⟩;replace H : (r09_far.l0 k1 a0 a1 a2 a3 a4 y259 (wrap64 (x13_1 + 1))) = some (r1, r2) := by rw [hy259]; exact H
      have Ny259 := aK hy259;clear hy259;have H' := aK H;clear H;go_wp2_with (first | ((with_reducible refine gate_callee (f := 56) rfl ?_); refine gD_ 26 Tryz.func56 (r09_word.calls k1 a0 a4 t256 _ A7.out) ?_; intro nd) | ((with_reducible refine gate_callee (f := 56) rfl ?_); refine gD_ 40 Tryz.func56 (r09_word.calls k1 a0 (wrap64 ((wrap64 (a4 + t256)) + (wrap64 (2 * (wrap64 (x13_1 - a1)))))) t257 _ A9.out) ?_; intro nd) | ((with_reducible refine gate_callee (f := 92) rfl ?_); refine gD_ 44 Tryz.func92 (r09_plane.calls (wrap64 (t257 + a3)) t258 _ A10.out) ?_; intro nd) | ((with_reducible refine gate_builtin (b := .append) (xs := #[.tmp 51, .tmp 56]) rfl ?_); at_builtin; refine Kd.R_append k61 (w0 := w) w.heap.size rfl (.tmp 51) (.tmp 56) 22 61 (.agg #[(.int .i64 0), (.int .i64 0), (.int .i64 0), (.int .i64 0)]) 32 rfl Tryz.underlying22 info61 rfl (by decide) (by omega) u12 x12_1 (⟨x13_1, x13_1, t258, 1⟩ : S61) [.int .i64 x13_1, .int .i64 x13_1, .int .i64 t258, .int .i64 1] (fun _ => True) (fun _ => False) rfl rfl ?aP (fun _ hk => hk.elim) ?aF ?aO ?aB ?aS ?aL ?_; (case aP => exact k61_mkM _ _ _ (⟨x13_1, x13_1, t258, 1⟩ : S61)); (case aB => exact bA); (case aF => exact (fun _ _ => trivial)); (case aO => exact (rA HO_12.out)); (case aS => exact (below_size bA)); (case aL => have := LMc13.out; omega); intro v260 w14 ho hb hg hat; rw [← Ny259.out] at ho; have n0_ := aK (hb); have n1_ := aK (ho); clear HB; clear HO_12; have HB := n0_; have HO261 := n1_; clear n0_ n1_; clear ho hb hg hat))
      go_roundg k1
      case measure => exact oK
      case rel => exact ⟨(y259), (wrap64 (x13_1 + 1)), gA, H', ⟨oK⟩, ⟨rA HO261.out⟩, ⟨bA⟩⟩
     have H' := aK H;clear H;go_wp2_with (first | ((with_reducible refine gate_callee (f := 56) rfl ?_); refine gD_ 26 Tryz.func56 (r09_word.calls k1 a0 a4 t256 _ A7.out) ?_; intro nd) | ((with_reducible refine gate_callee (f := 56) rfl ?_); refine gD_ 40 Tryz.func56 (r09_word.calls k1 a0 (wrap64 ((wrap64 (a4 + t256)) + (wrap64 (2 * (wrap64 (x13_1 - a1)))))) t257 _ A9.out) ?_; intro nd) | ((with_reducible refine gate_callee (f := 92) rfl ?_); refine gD_ 44 Tryz.func92 (r09_plane.calls (wrap64 (t257 + a3)) t258 _ A10.out) ?_; intro nd))
     go_roundg k1
     case measure => exact oK
     case rel => exact ⟨(x12_1), (wrap64 (x13_1 + 1)), gA, H', ⟨oK⟩, ⟨rA HO_12.out⟩, ⟨bA⟩⟩
    have H' := aK H;clear H;go_wp2_with (first | ((with_reducible refine gate_callee (f := 56) rfl ?_); refine gD_ 26 Tryz.func56 (r09_word.calls k1 a0 a4 t256 _ A7.out) ?_; intro nd) | ((with_reducible refine gate_callee (f := 56) rfl ?_); refine gD_ 40 Tryz.func56 (r09_word.calls k1 a0 (wrap64 ((wrap64 (a4 + t256)) + (wrap64 (2 * (wrap64 (x13_1 - a1)))))) t257 _ A9.out) ?_; intro nd) | ((with_reducible refine gate_callee (f := 92) rfl ?_); refine gD_ 44 Tryz.func92 (r09_plane.calls (wrap64 (t257 + a3)) t258 _ A10.out) ?_; intro nd))
    go_roundg k1
    case measure => exact oK
    case rel => exact ⟨(x12_1), (wrap64 (x13_1 + 1)), gA, H', ⟨oK⟩, ⟨rA HO_12.out⟩, ⟨bA⟩⟩
   obtain ⟨rfl, rfl⟩ := qP H;go_wp2;go_ret2;exact ⟨_, eA, rA HO_12.out, bA⟩
mutual
def r09_Get.j0 : Nat → ByteArray → Int → Bool → Option ((List (S61)) × Int)
 | 0, _, _, _ => none
 | k + 1, x0, x4, x35 => if x35 = true then (some (([] : List (S61)), 5)) else ((r09_word.f k x0 2).bind fun t265 => (if t265 > (x0.size : Int) then (some (([] : List (S61)), 4)) else ((r09_word.f k x0 2).bind fun t266 => (if t266 < (wrap64 (16 + (wrap64 (8 * x4)))) then (some (([] : List (S61)), 5)) else ((r09_word.f k x0 2).bind fun t267 => (if 0 ≤ t267 then (if t267 ≤ (x0.size : Int) then (r09_Get.l0 k (x0.extract 0 (t267 : Int).toNat) x4 (-1) 0) else (none)) else (none)))))))
def r09_Get.l0 : Nat → ByteArray → Int → Int → Int → Option ((List (S61)) × Int)
 | 0, _, _, _, _ => none
 | k + 1, x0, x4, x5, x6 => if x6 < x4 then ((r09_word.f k x0 (wrap64 (14 + (wrap64 (2 * x6))))).bind fun t268 => ((r09_word.f k x0 (wrap64 ((wrap64 (16 + (wrap64 (2 * x4)))) + (wrap64 (2 * x6))))).bind fun t269 => (if t269 > t268 then (some (([] : List (S61)), 5)) else (if t269 ≤ x5 then (some (([] : List (S61)), 5)) else ((r09_word.f k x0 (wrap64 ((wrap64 (16 + (wrap64 (6 * x4)))) + (wrap64 (2 * x6))))).bind fun t270 => (if (Int.tmod t270 2) = 1 then (some (([] : List (S61)), 5)) else (r09_Get.l0 k x0 x4 t268 (wrap64 (x6 + 1))))))))) else (if x5 = 65535 then (r09_Get.l1 k x0 x4 ([] : List (S61)) 0) else (some (([] : List (S61)), 5)))
def r09_Get.l1 : Nat → ByteArray → Int → List (S61) → Int → Option ((List (S61)) × Int)
 | 0, _, _, _, _ => none
 | k + 1, x0, x4, x9, x10 => if x10 < x4 then ((r09_word.f k x0 (wrap64 (14 + (wrap64 (2 * x10))))).bind fun t271 => ((r09_word.f k x0 (wrap64 ((wrap64 (16 + (wrap64 (2 * x4)))) + (wrap64 (2 * x10))))).bind fun t272 => ((r09_word.f k x0 (wrap64 ((wrap64 (16 + (wrap64 (4 * x4)))) + (wrap64 (2 * x10))))).bind fun t273 => ((r09_word.f k x0 (wrap64 ((wrap64 (16 + (wrap64 (6 * x4)))) + (wrap64 (2 * x10))))).bind fun t274 => (if t274 = 0 then ((r09_near.f t272 t271 t273).bind fun t275 => (if x9.length + t275.length < 4398046511104 then (r09_Get.l1 k x0 x4 (x9 ++ t275) (wrap64 (x10 + 1))) else (none))) else ((r09_far.f k x0 t272 t271 t273 (wrap64 ((wrap64 (16 + (wrap64 (6 * x4)))) + (wrap64 (2 * x10))))).bind fun bt281 => (if bt281.2 = 0 then (if x9.length + bt281.1.length < 4398046511104 then (r09_Get.l1 k x0 x4 (x9 ++ bt281.1) (wrap64 (x10 + 1))) else (none)) else (some (([] : List (S61)), bt281.2))))))))) else (some (x9, 0))
end
def r09_Get.f (k : Nat) (a0 : ByteArray) : Option ((List (S61)) × Int) := if (a0.size : Int) < 14 then (some (([] : List (S61)), 4)) else ((r09_word.f k a0 6).bind fun t262 => ((r09_word.f k a0 0).bind fun t263 => (if t263 = 4 then ((r09_word.f k a0 6).bind fun t264 => (if (Int.tmod t264 2) = 1 then (r09_Get.j0 k a0 (wrap64 (Int.tdiv t262 2)) true) else (r09_Get.j0 k a0 (wrap64 (Int.tdiv t262 2)) ((wrap64 (Int.tdiv t262 2)) == 0)))) else (r09_Get.j0 k a0 (wrap64 (Int.tdiv t262 2)) true))))
theorem r09_Get.calls (k : Nat) (a0 : ByteArray) (r1 : List (S61)) (r2 : Int) (w : World) (h : r09_Get.f k a0 = some (r1, r2)) :
  Calls Tryz.prog 29 #[.string a0] w fun e w' => ∃ v0_ : Value, e = .returned (.tuple #[v0_, .int .i64 r2]) ∧ Kd.R k61 61 w' w.heap.size (fun _ => True) v0_ r1 ∧ Below w.heap.size w w' := by
 have HB := aK (Below.refl w.heap.size w);have H : (if (a0.size : Int) < 14 then (some (([] : List (S61)), 4)) else ((r09_word.f k a0 6).bind fun t262 => ((r09_word.f k a0 0).bind fun t263 => (if t263 = 4 then ((r09_word.f k a0 6).bind fun t264 => (if (Int.tmod t264 2) = 1 then (r09_Get.j0 k a0 (wrap64 (Int.tdiv t262 2)) true) else (r09_Get.j0 k a0 (wrap64 (Int.tdiv t262 2)) ((wrap64 (Int.tdiv t262 2)) == 0)))) else (r09_Get.j0 k a0 (wrap64 (Int.tdiv t262 2)) true))))) = some (r1, r2) := h;clear h;replace H := qC H;rcases H with ⟨c2, H⟩ | ⟨c2, H⟩
 ·
  have c2b0 : decide ((a0.size : Int) < 14) = true := decide_eq_true c2;have c2b1 : decide (a0.size < 14) = true := decide_eq_true (by omega);clear c2;obtain ⟨rfl, rfl⟩ := qP H;go_enter Tryz.func29, Tryz.ntmps29;go_wp2;go_ret2;exact ⟨_, eA, nA, bA⟩
 have c2b0 : decide ((a0.size : Int) < 14) = false := decide_eq_false c2;have c2b1 : decide (a0.size < 14) = false := decide_eq_false (by omega);clear c2;replace H := qS H;obtain ⟨t262, A3, H⟩ := H;have HC4 := aK H;clear H;go_enter Tryz.func29, Tryz.ntmps29;go_upto_region 4 with (first | ((with_reducible refine gate_callee (f := 56) rfl ?_); refine gD_ 21 Tryz.func56 (r09_word.calls k a0 6 t262 _ A3.out) ?_; intro nd))
 (try simp only [Act.put, List.setIfInBounds_toArray, List.set_cons_zero, List.set_cons_succ])
 go_cut [35] (fun v35 wc => ∃ (kq : Nat) (x35_3 : Bool), v35 = .bool x35_3 ∧ Aside0 (r09_Get.j0 kq a0 (wrap64 (Int.tdiv t262 2)) x35_3 = some (r1, r2)) ∧ Aside0 (kq ≤ k) ∧ Aside0 (Below w.heap.size w wc))
 case first =>
  have H := HC4.out;clear HC4;replace H := qS H;obtain ⟨t263, A5, H⟩ := H;replace H := qF H;rcases H with ⟨c6b0, c6b1, H⟩ | ⟨c6b0, c6b1, H⟩
  ·
   (first | rw [c6b0] | (simp only [i64_w, i32_w]; rw [c6b0]) | skip)
   replace H := qS H;obtain ⟨t264, A7, H⟩ := H;replace H := qF H;rcases H with ⟨c8b0, c8b1, H⟩ | ⟨c8b0, c8b1, H⟩
   ·
    have H' := aK H;clear H;go_wp2_with (first | ((with_reducible refine gate_callee (f := 56) rfl ?_); refine gD_ 24 Tryz.func56 (r09_word.calls k a0 0 t263 _ A5.out) ?_; intro nd) | (go_at_call 56; (with_reducible refine (r09_word.calls k a0 6 t264 _ A7.out).mono ?_); rintro e w' ⟨rfl, ⟨nd, rfl⟩⟩))
    go_meet
    case rel => exact ⟨_, (true), gA, H', ⟨oK⟩, ⟨bA⟩⟩
   have H' := aK H;clear H;go_wp2_with (first | ((with_reducible refine gate_callee (f := 56) rfl ?_); refine gD_ 24 Tryz.func56 (r09_word.calls k a0 0 t263 _ A5.out) ?_; intro nd) | (go_at_call 56; (with_reducible refine (r09_word.calls k a0 6 t264 _ A7.out).mono ?_); rintro e w' ⟨rfl, ⟨nd, rfl⟩⟩))
   go_meet
   case rel => exact ⟨_, (((wrap64 (Int.tdiv t262 2)) == 0)), gA, H', ⟨oK⟩, ⟨bA⟩⟩
  (first | rw [c6b0] | (simp only [i64_w, i32_w]; rw [c6b0]) | skip)
  have H' := aK H;clear H;go_wp2_with (first | ((with_reducible refine gate_callee (f := 56) rfl ?_); refine gD_ 24 Tryz.func56 (r09_word.calls k a0 0 t263 _ A5.out) ?_; intro nd))
  go_meet
  case rel => exact ⟨_, (true), gA, H', ⟨oK⟩, ⟨bA⟩⟩
 case rest =>
  clear HC4;obtain ⟨kq, x35_3, rfl, HA, HJ3, HB⟩ := hcut;cases kq with
  | zero => exact absurd HA.out (by simp [r09_Get.j0])
  | succ kj3 =>
   have H := HA.out;clear HA;simp only [r09_Get.j0] at H;replace H := qB H;rcases H with ⟨rfl, H⟩ | ⟨rfl, H⟩
   ·
    obtain ⟨rfl, rfl⟩ := qP H;go_wp2;go_ret2;exact ⟨_, eA, nA, bA⟩
   replace H := qS H;obtain ⟨t265, A10, H⟩ := H;replace H := qM H;rcases H with ⟨c11b0, H⟩ | ⟨c11b0, H⟩
   ·
    obtain ⟨rfl, rfl⟩ := qP H;go_wp2_with (first | ((with_reducible refine gate_callee (f := 56) rfl ?_); refine gD_ 37 Tryz.func56 (r09_word.calls kj3 a0 2 t265 _ A10.out) ?_; intro nd))
    go_ret2;exact ⟨_, eA, nA, bA⟩
   replace H := qS H;obtain ⟨t266, A12, H⟩ := H;replace H := qL H;rcases H with ⟨c13b0, H⟩ | ⟨c13b0, H⟩
   ·
    obtain ⟨rfl, rfl⟩ := qP H;go_wp2_with (first | ((with_reducible refine gate_callee (f := 56) rfl ?_); refine gD_ 37 Tryz.func56 (r09_word.calls kj3 a0 2 t265 _ A10.out) ?_; intro nd) | ((with_reducible refine gate_callee (f := 56) rfl ?_); refine gD_ 42 Tryz.func56 (r09_word.calls kj3 a0 2 t266 _ A12.out) ?_; intro nd))
    go_ret2;exact ⟨_, eA, nA, bA⟩
   replace H := qS H;obtain ⟨t267, A14, H⟩ := H;replace H := nD H;obtain ⟨c15, c15b0, c15b1, H⟩ := H;clear c15;replace H := nD H;obtain ⟨c16, c16b0, c16b1, H⟩ := H;clear c16;have H' := aK H;clear H;go_wp2_with (first | ((with_reducible refine gate_callee (f := 56) rfl ?_); refine gD_ 37 Tryz.func56 (r09_word.calls kj3 a0 2 t265 _ A10.out) ?_; intro nd) | ((with_reducible refine gate_callee (f := 56) rfl ?_); refine gD_ 42 Tryz.func56 (r09_word.calls kj3 a0 2 t266 _ A12.out) ?_; intro nd) | ((with_reducible refine gate_callee (f := 56) rfl ?_); refine gD_ 49 Tryz.func56 (r09_word.calls kj3 a0 2 t267 _ A14.out) ?_; intro nd))
   go_loopg [5, 6] kj3 (fun kq v5 v6 w' => ∃ (x5_2 : Int) (x6_2 : Int), v5 = .int .i64 x5_2 ∧ v6 = .int .i64 x6_2 ∧ Aside0 (r09_Get.l0 kq (a0.extract 0 (t267 : Int).toNat) (wrap64 (Int.tdiv t262 2)) x5_2 x6_2 = some (r1, r2)) ∧ Aside0 (kq ≤ kj3) ∧ Aside0 (Below w.heap.size w w'))
   case atStart => exact ⟨((-1)), (0), gA, gA, H', ⟨Nat.le_refl _⟩, ⟨bA⟩⟩
   case round =>
    clear H';obtain ⟨x5_2, x6_2, rfl, rfl, HA, HK2, HB⟩ := hrel;cases gk with
    | zero => exact absurd HA.out (by simp [r09_Get.l0])
    | succ k2 =>
     have H := HA.out;clear HA;simp only [r09_Get.l0] at H;replace H := qL H;rcases H with ⟨c17b0, H⟩ | ⟨c17b0, H⟩
     ·
      replace H := qS H;obtain ⟨t268, A18, H⟩ := H;replace H := qS H;obtain ⟨t269, A19, H⟩ := H;replace H := qM H;rcases H with ⟨c20b0, H⟩ | ⟨c20b0, H⟩
      ·
       obtain ⟨rfl, rfl⟩ := qP H;go_wp2_with (first | ((with_reducible refine gate_callee (f := 56) rfl ?_); refine gD_ 60 Tryz.func56 (r09_word.calls k2 (a0.extract 0 (t267 : Int).toNat) (wrap64 (14 + (wrap64 (2 * x6_2)))) t268 _ A18.out) ?_; intro nd) | ((with_reducible refine gate_callee (f := 56) rfl ?_); refine gD_ 68 Tryz.func56 (r09_word.calls k2 (a0.extract 0 (t267 : Int).toNat) (wrap64 ((wrap64 (16 + (wrap64 (2 * (wrap64 (Int.tdiv t262 2)))))) + (wrap64 (2 * x6_2)))) t269 _ A19.out) ?_; intro nd))
       go_ret2;exact ⟨_, eA, nA, bA⟩
      replace H := qL H;rcases H with ⟨c21b0, H⟩ | ⟨c21b0, H⟩
      ·
       obtain ⟨rfl, rfl⟩ := qP H;go_wp2_with (first | ((with_reducible refine gate_callee (f := 56) rfl ?_); refine gD_ 60 Tryz.func56 (r09_word.calls k2 (a0.extract 0 (t267 : Int).toNat) (wrap64 (14 + (wrap64 (2 * x6_2)))) t268 _ A18.out) ?_; intro nd) | ((with_reducible refine gate_callee (f := 56) rfl ?_); refine gD_ 68 Tryz.func56 (r09_word.calls k2 (a0.extract 0 (t267 : Int).toNat) (wrap64 ((wrap64 (16 + (wrap64 (2 * (wrap64 (Int.tdiv t262 2)))))) + (wrap64 (2 * x6_2)))) t269 _ A19.out) ?_; intro nd))
       go_ret2;exact ⟨_, eA, nA, bA⟩
      replace H := qS H;obtain ⟨t270, A22, H⟩ := H;replace H := qF H;rcases H with ⟨c23b0, c23b1, H⟩ | ⟨c23b0, c23b1, H⟩
      ·
       obtain ⟨rfl, rfl⟩ := qP H;go_wp2_with (first | ((with_reducible refine gate_callee (f := 56) rfl ?_); refine gD_ 60 Tryz.func56 (r09_word.calls k2 (a0.extract 0 (t267 : Int).toNat) (wrap64 (14 + (wrap64 (2 * x6_2)))) t268 _ A18.out) ?_; intro nd) | ((with_reducible refine gate_callee (f := 56) rfl ?_); refine gD_ 68 Tryz.func56 (r09_word.calls k2 (a0.extract 0 (t267 : Int).toNat) (wrap64 ((wrap64 (16 + (wrap64 (2 * (wrap64 (Int.tdiv t262 2)))))) + (wrap64 (2 * x6_2)))) t269 _ A19.out) ?_; intro nd) | (go_at_call 56; (with_reducible refine (r09_word.calls k2 (a0.extract 0 (t267 : Int).toNat) (wrap64 ((wrap64 (16 + (wrap64 (6 * (wrap64 (Int.tdiv t262 2)))))) + (wrap64 (2 * x6_2)))) t270 _ A22.out).mono ?_); rintro e w' ⟨rfl, ⟨nd, rfl⟩⟩))
       go_ret2;exact ⟨_, eA, nA, bA⟩
      have H' := aK H;clear H;go_wp2_with (first | ((with_reducible refine gate_callee (f := 56) rfl ?_); refine gD_ 60 Tryz.func56 (r09_word.calls k2 (a0.extract 0 (t267 : Int).toNat) (wrap64 (14 + (wrap64 (2 * x6_2)))) t268 _ A18.out) ?_; intro nd) | ((with_reducible refine gate_callee (f := 56) rfl ?_); refine gD_ 68 Tryz.func56 (r09_word.calls k2 (a0.extract 0 (t267 : Int).toNat) (wrap64 ((wrap64 (16 + (wrap64 (2 * (wrap64 (Int.tdiv t262 2)))))) + (wrap64 (2 * x6_2)))) t269 _ A19.out) ?_; intro nd) | (go_at_call 56; (with_reducible refine (r09_word.calls k2 (a0.extract 0 (t267 : Int).toNat) (wrap64 ((wrap64 (16 + (wrap64 (6 * (wrap64 (Int.tdiv t262 2)))))) + (wrap64 (2 * x6_2)))) t270 _ A22.out).mono ?_); rintro e w' ⟨rfl, ⟨nd, rfl⟩⟩))
      go_roundg k2
      case measure => exact oK
      case rel => exact ⟨(t268), (wrap64 (x6_2 + 1)), gA, gA, H', ⟨oK⟩, ⟨bA⟩⟩
     replace H := qF H;rcases H with ⟨c24b0, c24b1, H⟩ | ⟨c24b0, c24b1, H⟩
     ·
      have H' := aK H;clear H;go_wp2;go_loopg [9, 10] k2 (fun kq v9 v10 w' => ∃ (x9_3 : List (S61)) (x10_3 : Int), v10 = .int .i64 x10_3 ∧ Aside0 (r09_Get.l1 kq (a0.extract 0 (t267 : Int).toNat) (wrap64 (Int.tdiv t262 2)) x9_3 x10_3 = some (r1, r2)) ∧ Aside0 (kq ≤ k2) ∧ Aside0 (Kd.R k61 61 w' w.heap.size (fun _ => True) v9 x9_3) ∧ Aside0 (Below w.heap.size w w'))
      case atStart => exact ⟨(([] : List (S61))), (0), gA, H', ⟨Nat.le_refl _⟩, ⟨nA⟩, ⟨bA⟩⟩
      case round =>
       clear H';obtain ⟨x9_3, x10_3, rfl, HA, HK3, HO_9, HB⟩ := hrel;cases gk with
       | zero => exact absurd HA.out (by simp [r09_Get.l1])
       | succ k3 =>
        have H := HA.out;clear HA;simp only [r09_Get.l1] at H;replace H := qL H;rcases H with ⟨c25b0, H⟩ | ⟨c25b0, H⟩
        ·
         replace H := qS H;obtain ⟨t271, A26, H⟩ := H;replace H := qS H;obtain ⟨t272, A27, H⟩ := H;replace H := qS H;obtain ⟨t273, A28, H⟩ := H;replace H := qS H;obtain ⟨t274, A29, H⟩ := H;replace H := qF H;rcases H with ⟨c30b0, c30b1, H⟩ | ⟨c30b0, c30b1, H⟩
         ·
          replace H := qS H;obtain ⟨t275, A31, H⟩ := H;replace H := nC H;obtain ⟨c32, H⟩ := H;have LMc32 := aK c32;clear c32;obtain ⟨y278, hy278⟩ : ∃ y_ : List (S61), y_ = (x9_3 ++ t275) := ⟨_, rfl⟩;replace H : (r09_Get.l1 k3 (a0.extract 0 (t267 : Int).toNat) (wrap64 (Int.tdiv t262 2)) y278 (wrap64 (x10_3 + 1))) = some (r1, r2) := by rw [hy278]; exact H
          have Ny278 := aK hy278;clear hy278;have H' := aK H;clear H;go_wp2_with (first | ((with_reducible refine gate_callee (f := 56) rfl ?_); refine gD_ 101 Tryz.func56 (r09_word.calls k3 (a0.extract 0 (t267 : Int).toNat) (wrap64 (14 + (wrap64 (2 * x10_3)))) t271 _ A26.out) ?_; intro nd) | ((with_reducible refine gate_callee (f := 56) rfl ?_); refine gD_ 109 Tryz.func56 (r09_word.calls k3 (a0.extract 0 (t267 : Int).toNat) (wrap64 ((wrap64 (16 + (wrap64 (2 * (wrap64 (Int.tdiv t262 2)))))) + (wrap64 (2 * x10_3)))) t272 _ A27.out) ?_; intro nd) | ((with_reducible refine gate_callee (f := 56) rfl ?_); refine gD_ 117 Tryz.func56 (r09_word.calls k3 (a0.extract 0 (t267 : Int).toNat) (wrap64 ((wrap64 (16 + (wrap64 (4 * (wrap64 (Int.tdiv t262 2)))))) + (wrap64 (2 * x10_3)))) t273 _ A28.out) ?_; intro nd) | ((with_reducible refine gate_callee (f := 56) rfl ?_); refine gD_ 126 Tryz.func56 (r09_word.calls k3 (a0.extract 0 (t267 : Int).toNat) (wrap64 ((wrap64 (16 + (wrap64 (6 * (wrap64 (Int.tdiv t262 2)))))) + (wrap64 (2 * x10_3)))) t274 _ A29.out) ?_; intro nd) | ((with_reducible refine gate_callee (f := 57) rfl ?_); refine gL_ 132 Tryz.func57 #[.int .i64 t272, .int .i64 t271, .int .i64 t273] ?_; (with_reducible refine (r09_near.calls t272 t271 t273 t275 _ A31.out).mono ?_); rintro e w33 ⟨v276, rfl, ho0, hb⟩; refine ⟨_, rfl, ?_⟩; have HO277 := aK (Kd.R_lower (Kd.R_new' ho0 (Kd.R_lt (rA HO_9.out))) (below_size bA)); replace HO_9 := eL HO_9 ho0 hb; replace HB := aK (below_step bA hb); (try clear hb ho0); obtain ⟨Ao35, co35, eo35⟩ := Kd.R_slice HO277.out; subst eo35) | ((with_reducible refine gate_builtin (b := .append) (xs := #[.tmp 128, .tmp 132]) rfl ?_); at_builtin; refine Kd.R_append_rows k61 (w0 := w) w.heap.size rfl (.tmp 128) (.tmp 132) 22 61 (.agg #[(.int .i64 0), (.int .i64 0), (.int .i64 0), (.int .i64 0)]) 32 rfl Tryz.underlying22 info61 rfl (by decide) (by omega) u9 x9_3 t275 _ _ _ (fun k_ => some k_ ≠ (.slice Ao35 t275.length co35 : Value).ownBlock) (fun _ => False) rfl rfl ?aO ?aR (fun _ _ h => h) (fun _ h => h.elim) ?aF ?aB ?aS ?aL ?_; (case aR => exact cA (Kd.R_reads' HO277.out).2.2); (case aB => exact bA); (case aF => exact (fun k_ hk => Kd.fresh' (Kd.R_lt (rA HO277.out)) k_ hk)); (case aO => exact (rA (Kd.R_mono HO_9.out (fun _ hk => hk.2)))); (case aS => exact (below_size bA)); (case aL => have := LMc32.out; omega); intro v279 w34 ho hb hg hat; rw [← Ny278.out] at ho; have n0_ := aK (Kd.R_after (ok := (fun _ => True)) (rA HO277.out) hg hat); have n1_ := aK (hb); have n2_ := aK (ho); clear HO277; clear HB; clear HO_9; have HO277 := n0_; have HB := n1_; have HO280 := n2_; clear n0_ n1_ n2_; clear ho hb hg hat))
          go_roundg k3
          case measure => exact oK
          case rel => exact ⟨(y278), (wrap64 (x10_3 + 1)), gA, H', ⟨oK⟩, ⟨rA (Kd.R_mono HO280.out (fun _ hk => trivial))⟩, ⟨bA⟩⟩
         replace H := qS H;obtain ⟨⟨t281, t282⟩, A36, H⟩ := H;try dsimp only at H
         replace H := qF H;rcases H with ⟨c37b0, c37b1, H⟩ | ⟨c37b0, c37b1, H⟩
         ·
          replace H := nC H;obtain ⟨c38, H⟩ := H;have LMc38 := aK c38;clear c38;obtain ⟨y285, hy285⟩ : ∃ y_ : List (S61), y_ = (x9_3 ++ t281) := ⟨_, rfl⟩;replace H : (r09_Get.l1 k3 (a0.extract 0 (t267 : Int).toNat) (wrap64 (Int.tdiv t262 2)) y285 (wrap64 (x10_3 + 1))) = some (r1, r2) := by rw [hy285]; exact H
          have Ny285 := aK hy285;clear hy285;have H' := aK H;clear H;go_wp2_with (first | ((with_reducible refine gate_callee (f := 56) rfl ?_); refine gD_ 101 Tryz.func56 (r09_word.calls k3 (a0.extract 0 (t267 : Int).toNat) (wrap64 (14 + (wrap64 (2 * x10_3)))) t271 _ A26.out) ?_; intro nd) | ((with_reducible refine gate_callee (f := 56) rfl ?_); refine gD_ 109 Tryz.func56 (r09_word.calls k3 (a0.extract 0 (t267 : Int).toNat) (wrap64 ((wrap64 (16 + (wrap64 (2 * (wrap64 (Int.tdiv t262 2)))))) + (wrap64 (2 * x10_3)))) t272 _ A27.out) ?_; intro nd) | ((with_reducible refine gate_callee (f := 56) rfl ?_); refine gD_ 117 Tryz.func56 (r09_word.calls k3 (a0.extract 0 (t267 : Int).toNat) (wrap64 ((wrap64 (16 + (wrap64 (4 * (wrap64 (Int.tdiv t262 2)))))) + (wrap64 (2 * x10_3)))) t273 _ A28.out) ?_; intro nd) | ((with_reducible refine gate_callee (f := 56) rfl ?_); refine gD_ 126 Tryz.func56 (r09_word.calls k3 (a0.extract 0 (t267 : Int).toNat) (wrap64 ((wrap64 (16 + (wrap64 (6 * (wrap64 (Int.tdiv t262 2)))))) + (wrap64 (2 * x10_3)))) t274 _ A29.out) ?_; intro nd) | ((with_reducible refine gate_callee (f := 58) rfl ?_); refine gL_ 140 Tryz.func58 #[.string (a0.extract 0 (t267 : Int).toNat), .int .i64 t272, .int .i64 t271, .int .i64 t273, .int .i64 (wrap64 ((wrap64 (16 + (wrap64 (6 * (wrap64 (Int.tdiv t262 2)))))) + (wrap64 (2 * x10_3))))] ?_; (with_reducible refine (r09_far.calls k3 (a0.extract 0 (t267 : Int).toNat) t272 t271 t273 (wrap64 ((wrap64 (16 + (wrap64 (6 * (wrap64 (Int.tdiv t262 2)))))) + (wrap64 (2 * x10_3)))) t281 t282 _ A36.out).mono ?_); rintro e w39 ⟨v283, rfl, ho0, hb⟩; refine ⟨_, rfl, ?_⟩; have HO284 := aK (Kd.R_lower (Kd.R_new' ho0 (Kd.R_lt (rA HO_9.out))) (below_size bA)); replace HO_9 := eL HO_9 ho0 hb; replace HB := aK (below_step bA hb); (try clear hb ho0); obtain ⟨Ao41, co41, eo41⟩ := Kd.R_slice HO284.out; subst eo41) | ((with_reducible refine gate_builtin (b := .append) (xs := #[.tmp 146, .tmp 147]) rfl ?_); at_builtin; refine Kd.R_append_rows k61 (w0 := w) w.heap.size rfl (.tmp 146) (.tmp 147) 22 61 (.agg #[(.int .i64 0), (.int .i64 0), (.int .i64 0), (.int .i64 0)]) 32 rfl Tryz.underlying22 info61 rfl (by decide) (by omega) u9 x9_3 t281 _ _ _ (fun k_ => some k_ ≠ (.slice Ao41 t281.length co41 : Value).ownBlock) (fun _ => False) rfl rfl ?aO ?aR (fun _ _ h => h) (fun _ h => h.elim) ?aF ?aB ?aS ?aL ?_; (case aR => exact cA (Kd.R_reads' HO284.out).2.2); (case aB => exact bA); (case aF => exact (fun k_ hk => Kd.fresh' (Kd.R_lt (rA HO284.out)) k_ hk)); (case aO => exact (rA (Kd.R_mono HO_9.out (fun _ hk => hk.2)))); (case aS => exact (below_size bA)); (case aL => have := LMc38.out; omega); intro v286 w40 ho hb hg hat; rw [← Ny285.out] at ho; have n0_ := aK (Kd.R_after (ok := (fun _ => True)) (rA HO284.out) hg hat); have n1_ := aK (hb); have n2_ := aK (ho); clear HO284; clear HB; clear HO_9; have HO284 := n0_; have HB := n1_; have HO287 := n2_; clear n0_ n1_ n2_; clear ho hb hg hat))
          go_roundg k3
          case measure => exact oK
          case rel => exact ⟨(y285), (wrap64 (x10_3 + 1)), gA, H', ⟨oK⟩, ⟨rA (Kd.R_mono HO287.out (fun _ hk => trivial))⟩, ⟨bA⟩⟩
         obtain ⟨rfl, rfl⟩ := qP H;go_wp2_with (first | ((with_reducible refine gate_callee (f := 56) rfl ?_); refine gD_ 101 Tryz.func56 (r09_word.calls k3 (a0.extract 0 (t267 : Int).toNat) (wrap64 (14 + (wrap64 (2 * x10_3)))) t271 _ A26.out) ?_; intro nd) | ((with_reducible refine gate_callee (f := 56) rfl ?_); refine gD_ 109 Tryz.func56 (r09_word.calls k3 (a0.extract 0 (t267 : Int).toNat) (wrap64 ((wrap64 (16 + (wrap64 (2 * (wrap64 (Int.tdiv t262 2)))))) + (wrap64 (2 * x10_3)))) t272 _ A27.out) ?_; intro nd) | ((with_reducible refine gate_callee (f := 56) rfl ?_); refine gD_ 117 Tryz.func56 (r09_word.calls k3 (a0.extract 0 (t267 : Int).toNat) (wrap64 ((wrap64 (16 + (wrap64 (4 * (wrap64 (Int.tdiv t262 2)))))) + (wrap64 (2 * x10_3)))) t273 _ A28.out) ?_; intro nd) | ((with_reducible refine gate_callee (f := 56) rfl ?_); refine gD_ 126 Tryz.func56 (r09_word.calls k3 (a0.extract 0 (t267 : Int).toNat) (wrap64 ((wrap64 (16 + (wrap64 (6 * (wrap64 (Int.tdiv t262 2)))))) + (wrap64 (2 * x10_3)))) t274 _ A29.out) ?_; intro nd) | ((with_reducible refine gate_callee (f := 58) rfl ?_); refine gL_ 140 Tryz.func58 #[.string (a0.extract 0 (t267 : Int).toNat), .int .i64 t272, .int .i64 t271, .int .i64 t273, .int .i64 (wrap64 ((wrap64 (16 + (wrap64 (6 * (wrap64 (Int.tdiv t262 2)))))) + (wrap64 (2 * x10_3))))] ?_; (with_reducible refine (r09_far.calls k3 (a0.extract 0 (t267 : Int).toNat) t272 t271 t273 (wrap64 ((wrap64 (16 + (wrap64 (6 * (wrap64 (Int.tdiv t262 2)))))) + (wrap64 (2 * x10_3)))) t281 t282 _ A36.out).mono ?_); rintro e w42 ⟨v283, rfl, ho0, hb⟩; refine ⟨_, rfl, ?_⟩; have HO284 := aK (Kd.R_lower (Kd.R_new' ho0 (Kd.R_lt (rA HO_9.out))) (below_size bA)); replace HO_9 := eL HO_9 ho0 hb; replace HB := aK (below_step bA hb); (try clear hb ho0)))
         go_ret2;exact ⟨_, eA, nA, bA⟩
        obtain ⟨rfl, rfl⟩ := qP H;go_wp2;go_ret2;exact ⟨_, eA, rA HO_9.out, bA⟩
     obtain ⟨rfl, rfl⟩ := qP H;go_wp2;go_ret2;exact ⟨_, eA, nA, bA⟩
def r09_glyph.f (a0_0 : Int) (a0_1 : Int) (a0_2 : Int) (a0_3 : Int) : Option (Bool) := if a0_2 > 0 then (some true) else (if a0_3 = 1 then (some (decide (a0_1 > a0_0))) else (some false))
theorem r09_glyph.calls (a0_0 : Int) (a0_1 : Int) (a0_2 : Int) (a0_3 : Int) (r : Bool) (w : World) (h : r09_glyph.f a0_0 a0_1 a0_2 a0_3 = some r) :
  Calls Tryz.prog 117 #[.agg #[.int .i64 a0_0, .int .i64 a0_1, .int .i64 a0_2, .int .i64 a0_3]] w fun e w' => e = .returned (.bool r) ∧ Below w.heap.size w w' := by
 have hu61 := Tryz.underlying61;have HB := aK (Below.refl w.heap.size w);have H : (if a0_2 > 0 then (some true) else (if a0_3 = 1 then (some (decide (a0_1 > a0_0))) else (some false))) = some r := h;clear h;replace H := qM H;rcases H with ⟨c2b0, H⟩ | ⟨c2b0, H⟩
 ·
  obtain rfl := Option.some.inj H;go_enter Tryz.func117, Tryz.ntmps117;go_wp2_with (first | ((with_reducible refine gate_dst (N := 1) rfl ?_); refine box4 1 61 a0_0 a0_1 a0_2 a0_3 ?_; clear HB; intro gb388 w3 BK388 GW388 GE388 HB hcz4_0 hcz4_1 hcz4_2 hcz4_3 hfz4_0 hfz4_1 hfz4_2 hfz4_3))
  go_ret;exact ⟨eA, bG GE388.out⟩
 replace H := qF H;rcases H with ⟨c5b0, c5b1, H⟩ | ⟨c5b0, c5b1, H⟩
 ·
  obtain rfl := Option.some.inj H;go_enter Tryz.func117, Tryz.ntmps117;go_wp2_with (first | ((with_reducible refine gate_dst (N := 1) rfl ?_); refine box4 1 61 a0_0 a0_1 a0_2 a0_3 ?_; clear HB; intro gb388 w6 BK388 GW388 GE388 HB hcz7_0 hcz7_1 hcz7_2 hcz7_3 hfz7_0 hfz7_1 hfz7_2 hfz7_3))
  go_ret;exact ⟨eA, bG GE388.out⟩
 obtain rfl := Option.some.inj H;go_enter Tryz.func117, Tryz.ntmps117;go_wp2_with (first | ((with_reducible refine gate_dst (N := 1) rfl ?_); refine box4 1 61 a0_0 a0_1 a0_2 a0_3 ?_; clear HB; intro gb388 w8 BK388 GW388 GE388 HB hcz9_0 hcz9_1 hcz9_2 hcz9_3 hfz9_0 hfz9_1 hfz9_2 hfz9_3))
 go_ret;exact ⟨eA, bG GE388.out⟩
def r09_kept.l0 : Nat → List (S61) → List (S61) → Int → Option ((List (S61)))
 | 0, _, _, _ => none
 | k + 1, x0, x3, x4 => if x4 < (x0.length : Int) then (if 0 ≤ x4 then ((r09_glyph.f ((rd_T61 x0 x4).f0) ((rd_T61 x0 x4).f1) ((rd_T61 x0 x4).f2) ((rd_T61 x0 x4).f3)).bind fun t390 => (if t390 = true then (if x3.length < 4398046511104 then (r09_kept.l0 k x0 (x3 ++ [(⟨(rd_T61 x0 x4).f0, (rd_T61 x0 x4).f1, (rd_T61 x0 x4).f2, (rd_T61 x0 x4).f3⟩ : S61)]) (wrap64 (x4 + 1))) else (none)) else (r09_kept.l0 k x0 x3 (wrap64 (x4 + 1))))) else (none)) else (some x3)
def r09_kept.f (k : Nat) (l0 : List (S61)) : Option ((List (S61))) := r09_kept.l0 k l0 ([] : List (S61)) 0
theorem r09_kept.calls (k : Nat) (A0 : Option Addr) (c0 : Nat) (l0 : List (S61)) (r : List (S61)) (w : World) (hr0 : Kd.C k61 w A0 l0.length l0) (hc0 : l0.length ≤ c0) (h : r09_kept.f k l0 = some r) :
  Calls Tryz.prog 96 #[.slice A0 l0.length c0] w fun e w' => ∃ v0_ : Value, e = .returned (v0_) ∧ Kd.R k61 61 w' w.heap.size (fun _ => True) v0_ r ∧ Below w.heap.size w w' := by
 have hu61 := Tryz.underlying61;have HR0 := aK hr0;have HC0 := aK hc0;clear hr0 hc0;have HB := aK (Below.refl w.heap.size w);have H : (r09_kept.l0 k l0 ([] : List (S61)) 0) = some r := h;clear h;have H' := aK H;clear H;go_enter Tryz.func96, Tryz.ntmps96;go_wp2;go_loopg [3, 4] k (fun kq v3 v4 w' => ∃ (x3_1 : List (S61)) (x4_1 : Int), v4 = .int .i64 x4_1 ∧ Aside0 (r09_kept.l0 kq l0 x3_1 x4_1 = some r) ∧ Aside0 (kq ≤ k) ∧ Aside0 (Kd.R k61 61 w' w.heap.size (fun _ => True) v3 x3_1) ∧ Aside0 (Below w.heap.size w w'))
 case atStart => exact ⟨(([] : List (S61))), (0), gA, H', ⟨Nat.le_refl _⟩, ⟨nA⟩, ⟨bA⟩⟩
 case round =>
  clear H';obtain ⟨x3_1, x4_1, rfl, HA, HK1, HO_3, HB⟩ := hrel;cases gk with
  | zero => exact absurd HA.out (by simp [r09_kept.l0])
  | succ k1 =>
   have H := HA.out;clear HA;simp only [r09_kept.l0] at H;replace H := qL H;rcases H with ⟨c2b0, H⟩ | ⟨c2b0, H⟩
   ·
    replace H := nL H;obtain ⟨c3b0, H⟩ := H;replace H := qS H;obtain ⟨t390, A4, H⟩ := H;replace H := qB H;rcases H with ⟨rfl, H⟩ | ⟨rfl, H⟩
    ·
     replace H := nC H;obtain ⟨c6, H⟩ := H;have LMc6 := aK c6;clear c6;obtain ⟨y392, hy392⟩ : ∃ y_ : List (S61), y_ = (x3_1 ++ [(⟨(rd_T61 l0 x4_1).f0, (rd_T61 l0 x4_1).f1, (rd_T61 l0 x4_1).f2, (rd_T61 l0 x4_1).f3⟩ : S61)]) := ⟨_, rfl⟩;replace H : (r09_kept.l0 k1 l0 y392 (wrap64 (x4_1 + 1))) = some r := by rw [hy392]; exact H
     have Ny392 := aK hy392;clear hy392;have H' := aK H;clear H;obtain ⟨p389, q389, ad389, e389, hx389_0, hx389_1, hx389_2, hx389_3⟩ := aT (at_T61 HR0.out x4_1);cases e389
     replace hx389_0 := kM HB.out hx389_0;replace hx389_1 := kM HB.out hx389_1;replace hx389_2 := kM HB.out hx389_2;replace hx389_3 := kM HB.out hx389_3;go_wp2_with (first | ((with_reducible refine gate_callee (f := 117) rfl ?_); refine gB_ 15 Tryz.func117 (r09_glyph.calls ((rd_T61 l0 x4_1).f0) ((rd_T61 l0 x4_1).f1) ((rd_T61 l0 x4_1).f2) ((rd_T61 l0 x4_1).f3) true _ A4.out) ?_; clear HB; intro w7 hb HB; replace HO_3 := aK (Kd.R_below (rA HO_3.out) hb); clear hb; obtain ⟨p391, q391, ad391, e391, hx391_0, hx391_1, hx391_2, hx391_3⟩ := aT (at_T61 HR0.out x4_1); obtain rfl : ad389 = ad391 := (by injection e391); replace hx391_0 := kM HB.out hx391_0; replace hx391_1 := kM HB.out hx391_1; replace hx391_2 := kM HB.out hx391_2; replace hx391_3 := kM HB.out hx391_3) | ((with_reducible refine gate_builtin (b := .append) (xs := #[.tmp 16, .tmp 21]) rfl ?_); at_builtin; refine Kd.R_append k61 (w0 := w) w.heap.size rfl (.tmp 16) (.tmp 21) 22 61 (.agg #[(.int .i64 0), (.int .i64 0), (.int .i64 0), (.int .i64 0)]) 32 rfl Tryz.underlying22 info61 rfl (by decide) (by omega) u3 x3_1 (⟨(rd_T61 l0 x4_1).f0, (rd_T61 l0 x4_1).f1, (rd_T61 l0 x4_1).f2, (rd_T61 l0 x4_1).f3⟩ : S61) [.int .i64 ((rd_T61 l0 x4_1).f0), .int .i64 ((rd_T61 l0 x4_1).f1), .int .i64 ((rd_T61 l0 x4_1).f2), .int .i64 ((rd_T61 l0 x4_1).f3)] (fun _ => True) (fun _ => False) rfl rfl ?aP (fun _ hk => hk.elim) ?aF ?aO ?aB ?aS ?aL ?_; (case aP => exact k61_mkM _ _ _ (⟨(rd_T61 l0 x4_1).f0, (rd_T61 l0 x4_1).f1, (rd_T61 l0 x4_1).f2, (rd_T61 l0 x4_1).f3⟩ : S61)); (case aB => exact bA); (case aF => exact (fun _ _ => trivial)); (case aO => exact (rA HO_3.out)); (case aS => exact (below_size bA)); (case aL => have := LMc6.out; omega); intro v393 w8 ho hb hg hat; rw [← Ny392.out] at ho; have n0_ := aK (hb); have n1_ := aK (ho); clear HB; clear HO_3; have HB := n0_; have HO394 := n1_; clear n0_ n1_; clear ho hb hg hat))
     go_roundg k1
     case measure => exact oK
     case rel => exact ⟨(y392), (wrap64 (x4_1 + 1)), gA, H', ⟨oK⟩, ⟨rA HO394.out⟩, ⟨bA⟩⟩
    have H' := aK H;clear H;obtain ⟨p389, q389, ad389, e389, hx389_0, hx389_1, hx389_2, hx389_3⟩ := aT (at_T61 HR0.out x4_1);cases e389
    replace hx389_0 := kM HB.out hx389_0;replace hx389_1 := kM HB.out hx389_1;replace hx389_2 := kM HB.out hx389_2;replace hx389_3 := kM HB.out hx389_3;go_wp2_with (first | ((with_reducible refine gate_callee (f := 117) rfl ?_); refine gB_ 15 Tryz.func117 (r09_glyph.calls ((rd_T61 l0 x4_1).f0) ((rd_T61 l0 x4_1).f1) ((rd_T61 l0 x4_1).f2) ((rd_T61 l0 x4_1).f3) false _ A4.out) ?_; clear HB; intro w9 hb HB; replace HO_3 := aK (Kd.R_below (rA HO_3.out) hb); clear hb))
    go_roundg k1
    case measure => exact oK
    case rel => exact ⟨(x3_1), (wrap64 (x4_1 + 1)), gA, H', ⟨oK⟩, ⟨rA HO_3.out⟩, ⟨bA⟩⟩
   obtain rfl := Option.some.inj H;go_wp2;go_ret;exact ⟨_, eA, rA HO_3.out, bA⟩
def r09_row.f (a0_0 : Int) (a0_1 : Int) (a0_2 : Int) (a0_3 : Int) : Option (Bool) := if a0_3 = 0 then (some (decide (a0_1 > a0_0))) else (some false)
theorem r09_row.calls (a0_0 : Int) (a0_1 : Int) (a0_2 : Int) (a0_3 : Int) (r : Bool) (w : World) (h : r09_row.f a0_0 a0_1 a0_2 a0_3 = some r) :
  Calls Tryz.prog 97 #[.agg #[.int .i64 a0_0, .int .i64 a0_1, .int .i64 a0_2, .int .i64 a0_3]] w fun e w' => e = .returned (.bool r) ∧ Below w.heap.size w w' := by
 have hu61 := Tryz.underlying61;have HB := aK (Below.refl w.heap.size w);have H : (if a0_3 = 0 then (some (decide (a0_1 > a0_0))) else (some false)) = some r := h;clear h;replace H := qF H;rcases H with ⟨c2b0, c2b1, H⟩ | ⟨c2b0, c2b1, H⟩
 ·
  obtain rfl := Option.some.inj H;go_enter Tryz.func97, Tryz.ntmps97;go_wp2_with (first | ((with_reducible refine gate_dst (N := 1) rfl ?_); refine box4 1 61 a0_0 a0_1 a0_2 a0_3 ?_; clear HB; intro gb395 w3 BK395 GW395 GE395 HB hcz4_0 hcz4_1 hcz4_2 hcz4_3 hfz4_0 hfz4_1 hfz4_2 hfz4_3))
  go_ret;exact ⟨eA, bG GE395.out⟩
 obtain rfl := Option.some.inj H;go_enter Tryz.func97, Tryz.ntmps97;go_wp2_with (first | ((with_reducible refine gate_dst (N := 1) rfl ?_); refine box4 1 61 a0_0 a0_1 a0_2 a0_3 ?_; clear HB; intro gb395 w5 BK395 GW395 GE395 HB hcz6_0 hcz6_1 hcz6_2 hcz6_3 hfz6_0 hfz6_1 hfz6_2 hfz6_3))
 go_ret;exact ⟨eA, bG GE395.out⟩
def r09_Many.l0 : Nat → List (S61) → Int → Bool → Int → Option (Int × Int × Int)
 | 0, _, _, _, _ => none
 | k + 1, x0, x5, x6, x7 => if x7 < (x0.length : Int) then (if 0 ≤ x7 then (if ((rd_T61 x0 x7).f1) > 65535 then (some (0, 0, 7)) else ((r09_row.f ((rd_T61 x0 x7).f0) ((rd_T61 x0 x7).f1) ((rd_T61 x0 x7).f2) ((rd_T61 x0 x7).f3)).bind fun t402 => (if t402 = true then (if x6 = true then (r09_Many.l0 k x0 (wrap64 ((wrap64 ((wrap64 (x5 + ((rd_T61 x0 x7).f1))) - ((rd_T61 x0 x7).f0))) + 1)) true (wrap64 (x7 + 1))) else (r09_Many.l0 k x0 (wrap64 ((wrap64 ((wrap64 (x5 + ((rd_T61 x0 x7).f1))) - ((rd_T61 x0 x7).f0))) + 1)) (((rd_T61 x0 x7).f1) == 65535) (wrap64 (x7 + 1)))) else (if x6 = true then (r09_Many.l0 k x0 x5 true (wrap64 (x7 + 1))) else (r09_Many.l0 k x0 x5 (((rd_T61 x0 x7).f1) == 65535) (wrap64 (x7 + 1))))))) else (none)) else (if x6 = true then (if (wrap64 ((wrap64 (16 + (wrap64 (8 * (x0.length : Int))))) + (wrap64 (2 * x5)))) > 65535 then (some (0, 0, 7)) else (some ((x0.length : Int), x5, 0))) else (if (wrap64 ((wrap64 (16 + (wrap64 (8 * (wrap64 ((x0.length : Int) + 1)))))) + (wrap64 (2 * x5)))) > 65535 then (some (0, 0, 7)) else (some (wrap64 ((x0.length : Int) + 1), x5, 0))))
def r09_Many.f (k : Nat) (l0 : List (S61)) : Option (Int × Int × Int) := (r08_Is.f k l0).bind fun t396 => (if t396 = true then ((r09_kept.f k l0).bind fun t397 => (r09_Many.l0 k t397 0 false 0)) else (some (0, 0, 1)))
theorem r09_Many.calls (k : Nat) (A0 : Option Addr) (c0 : Nat) (l0 : List (S61)) (r1 : Int) (r2 : Int) (r3 : Int) (w : World) (hr0 : Kd.C k61 w A0 l0.length l0) (hc0 : l0.length ≤ c0) (h : r09_Many.f k l0 = some (r1, r2, r3)) :
  Calls Tryz.prog 95 #[.slice A0 l0.length c0] w fun e w' => e = .returned (.tuple #[.int .i64 r1, .int .i64 r2, .int .i64 r3]) ∧ Below w.heap.size w w' := by
 have hu61 := Tryz.underlying61;have HR0 := aK hr0;have HC0 := aK hc0;clear hr0 hc0;have HB := aK (Below.refl w.heap.size w);have H : ((r08_Is.f k l0).bind fun t396 => (if t396 = true then ((r09_kept.f k l0).bind fun t397 => (r09_Many.l0 k t397 0 false 0)) else (some (0, 0, 1)))) = some (r1, r2, r3) := h;clear h;replace H := qS H;obtain ⟨t396, A2, H⟩ := H;replace H := qB H;rcases H with ⟨rfl, H⟩ | ⟨rfl, H⟩
 ·
  replace H := qS H;obtain ⟨t397, A4, H⟩ := H;have H' := aK H;clear H;go_enter Tryz.func95, Tryz.ntmps95;go_wp2_with (first | (go_at_call 35; (with_reducible refine mB_ (r08_Is.calls k _ _ l0 true _ ?side1 ?side2 A2.out) ?_); (case side1 => exact cA HR0.out); (case side2 => exact HC0.out); clear HB; intro w5 hb HB; clear hb) | (go_at_call 96; (with_reducible refine (r09_kept.calls k _ _ l0 t397 _ ?side1 ?side2 A4.out).mono ?_); (case side1 => exact cB HR0.out); (case side2 => exact HC0.out); rintro e w6 ⟨v398, rfl, ho0, hb⟩; have HO399 := aK (Kd.R_lower ho0 (below_size bA)); replace HB := aK (below_step bA hb); (try clear hb ho0)))
  go_loopg [5, 6, 7] k (fun kq v5 v6 v7 w' => ∃ (x5_1 : Int) (x6_1 : Bool) (x7_1 : Int), v5 = .int .i64 x5_1 ∧ v6 = .bool x6_1 ∧ v7 = .int .i64 x7_1 ∧ Aside0 (r09_Many.l0 kq t397 x5_1 x6_1 x7_1 = some (r1, r2, r3)) ∧ Aside0 (kq ≤ k) ∧ Aside0 (Kd.R k61 61 w' w.heap.size (fun _ => True) v398 t397) ∧ Aside0 (Below w.heap.size w w'))
  case atStart => exact ⟨(0), (false), (0), gA, gA, gA, H', ⟨Nat.le_refl _⟩, ⟨rA HO399.out⟩, ⟨bA⟩⟩
  case round =>
   clear H';obtain ⟨x5_1, x6_1, x7_1, rfl, rfl, rfl, HA, HK1, HO_0, HB⟩ := hrel;cases gk with
   | zero => exact absurd HA.out (by simp [r09_Many.l0])
   | succ k1 =>
    have H := HA.out;clear HA;simp only [r09_Many.l0] at H;replace H := qL H;rcases H with ⟨c7b0, H⟩ | ⟨c7b0, H⟩
    ·
     replace H := nL H;obtain ⟨c8b0, H⟩ := H;replace H := qM H;rcases H with ⟨c9b0, H⟩ | ⟨c9b0, H⟩
     ·
      simp only [Option.some.injEq, Prod.mk.injEq] at H;obtain ⟨rfl, rfl, rfl⟩ := H;obtain ⟨Ao10, co10, eo10⟩ := Kd.R_slice HO_0.out;subst eo10;obtain ⟨p400, q400, ad400, e400, hx400_0, hx400_1, hx400_2, hx400_3⟩ := aT (at_T61 (Kd.R_reads' HO_0.out).2.2 x7_1);cases e400
      go_wp2;go_ret3
      exact ⟨eA, bA⟩
     replace H := qS H;obtain ⟨t402, A11, H⟩ := H;replace H := qB H;rcases H with ⟨rfl, H⟩ | ⟨rfl, H⟩
     ·
      replace H := qB H;rcases H with ⟨rfl, H⟩ | ⟨rfl, H⟩
      ·
       have H' := aK H;clear H;obtain ⟨Ao14, co14, eo14⟩ := Kd.R_slice HO_0.out;subst eo14;obtain ⟨p400, q400, ad400, e400, hx400_0, hx400_1, hx400_2, hx400_3⟩ := aT (at_T61 (Kd.R_reads' HO_0.out).2.2 x7_1);cases e400
       obtain ⟨p401, q401, ad401, e401, hx401_0, hx401_1, hx401_2, hx401_3⟩ := aT (at_T61 (Kd.R_reads' HO_0.out).2.2 x7_1);obtain rfl : ad400 = ad401 := (by injection e401);go_wp2_with (first | (go_at_call 97; (with_reducible refine mB_ (r09_row.calls ((rd_T61 t397 x7_1).f0) ((rd_T61 t397 x7_1).f1) ((rd_T61 t397 x7_1).f2) ((rd_T61 t397 x7_1).f3) true _ A11.out) ?_); clear HB; intro w15 hb HB; replace HO_0 := aK (Kd.R_below (rA HO_0.out) hb); clear hb; obtain ⟨p403, q403, ad403, e403, hx403_0, hx403_1, hx403_2, hx403_3⟩ := aT (at_T61 (Kd.R_reads' HO_0.out).2.2 x7_1); obtain rfl : ad400 = ad403 := (by injection e403); obtain ⟨p404, q404, ad404, e404, hx404_0, hx404_1, hx404_2, hx404_3⟩ := aT (at_T61 (Kd.R_reads' HO_0.out).2.2 x7_1); obtain rfl : ad400 = ad404 := (by injection e404)))
       repeat (go_quiet (first | (go_at_call 97; (with_reducible refine mB_ (r09_row.calls ((rd_T61 t397 x7_1).f0) ((rd_T61 t397 x7_1).f1) ((rd_T61 t397 x7_1).f2) ((rd_T61 t397 x7_1).f3) true _ A11.out) ?_); clear HB; intro w15 hb HB; replace HO_0 := aK (Kd.R_below (rA HO_0.out) hb); clear hb; obtain ⟨p403, q403, ad403, e403, hx403_0, hx403_1, hx403_2, hx403_3⟩ := aT (at_T61 (Kd.R_reads' HO_0.out).2.2 x7_1); obtain rfl : ad400 = ad403 := (by injection e403); obtain ⟨p404, q404, ad404, e404, hx404_0, hx404_1, hx404_2, hx404_3⟩ := aT (at_T61 (Kd.R_reads' HO_0.out).2.2 x7_1); obtain rfl : ad400 = ad404 := (by injection e404))); try go_wp2_with (first | (go_at_call 97; (with_reducible refine mB_ (r09_row.calls ((rd_T61 t397 x7_1).f0) ((rd_T61 t397 x7_1).f1) ((rd_T61 t397 x7_1).f2) ((rd_T61 t397 x7_1).f3) true _ A11.out) ?_); clear HB; intro w15 hb HB; replace HO_0 := aK (Kd.R_below (rA HO_0.out) hb); clear hb; obtain ⟨p403, q403, ad403, e403, hx403_0, hx403_1, hx403_2, hx403_3⟩ := aT (at_T61 (Kd.R_reads' HO_0.out).2.2 x7_1); obtain rfl : ad400 = ad403 := (by injection e403); obtain ⟨p404, q404, ad404, e404, hx404_0, hx404_1, hx404_2, hx404_3⟩ := aT (at_T61 (Kd.R_reads' HO_0.out).2.2 x7_1); obtain rfl : ad400 = ad404 := (by injection e404))))
       go_roundg k1
       case measure => exact oK
       case rel => exact ⟨(wrap64 ((wrap64 ((wrap64 (x5_1 + ((rd_T61 t397 x7_1).f1))) - ((rd_T61 t397 x7_1).f0))) + 1)), (true), (wrap64 (x7_1 + 1)), gA, gA, gA, H', ⟨oK⟩, ⟨rA HO_0.out⟩, ⟨bA⟩⟩
      have H' := aK H;clear H;obtain ⟨Ao16, co16, eo16⟩ := Kd.R_slice HO_0.out;subst eo16;obtain ⟨p400, q400, ad400, e400, hx400_0, hx400_1, hx400_2, hx400_3⟩ := aT (at_T61 (Kd.R_reads' HO_0.out).2.2 x7_1);cases e400
      obtain ⟨p401, q401, ad401, e401, hx401_0, hx401_1, hx401_2, hx401_3⟩ := aT (at_T61 (Kd.R_reads' HO_0.out).2.2 x7_1);obtain rfl : ad400 = ad401 := (by injection e401);go_wp2_with (first | (go_at_call 97; (with_reducible refine mB_ (r09_row.calls ((rd_T61 t397 x7_1).f0) ((rd_T61 t397 x7_1).f1) ((rd_T61 t397 x7_1).f2) ((rd_T61 t397 x7_1).f3) true _ A11.out) ?_); clear HB; intro w17 hb HB; replace HO_0 := aK (Kd.R_below (rA HO_0.out) hb); clear hb; obtain ⟨p403, q403, ad403, e403, hx403_0, hx403_1, hx403_2, hx403_3⟩ := aT (at_T61 (Kd.R_reads' HO_0.out).2.2 x7_1); obtain rfl : ad400 = ad403 := (by injection e403); obtain ⟨p404, q404, ad404, e404, hx404_0, hx404_1, hx404_2, hx404_3⟩ := aT (at_T61 (Kd.R_reads' HO_0.out).2.2 x7_1); obtain rfl : ad400 = ad404 := (by injection e404); obtain ⟨p405, q405, ad405, e405, hx405_0, hx405_1, hx405_2, hx405_3⟩ := aT (at_T61 (Kd.R_reads' HO_0.out).2.2 x7_1); obtain rfl : ad400 = ad405 := (by injection e405)))
      repeat (go_quiet (first | (go_at_call 97; (with_reducible refine mB_ (r09_row.calls ((rd_T61 t397 x7_1).f0) ((rd_T61 t397 x7_1).f1) ((rd_T61 t397 x7_1).f2) ((rd_T61 t397 x7_1).f3) true _ A11.out) ?_); clear HB; intro w17 hb HB; replace HO_0 := aK (Kd.R_below (rA HO_0.out) hb); clear hb; obtain ⟨p403, q403, ad403, e403, hx403_0, hx403_1, hx403_2, hx403_3⟩ := aT (at_T61 (Kd.R_reads' HO_0.out).2.2 x7_1); obtain rfl : ad400 = ad403 := (by injection e403); obtain ⟨p404, q404, ad404, e404, hx404_0, hx404_1, hx404_2, hx404_3⟩ := aT (at_T61 (Kd.R_reads' HO_0.out).2.2 x7_1); obtain rfl : ad400 = ad404 := (by injection e404); obtain ⟨p405, q405, ad405, e405, hx405_0, hx405_1, hx405_2, hx405_3⟩ := aT (at_T61 (Kd.R_reads' HO_0.out).2.2 x7_1); obtain rfl : ad400 = ad405 := (by injection e405))); try go_wp2_with (first | (go_at_call 97; (with_reducible refine mB_ (r09_row.calls ((rd_T61 t397 x7_1).f0) ((rd_T61 t397 x7_1).f1) ((rd_T61 t397 x7_1).f2) ((rd_T61 t397 x7_1).f3) true _ A11.out) ?_); clear HB; intro w17 hb HB; replace HO_0 := aK (Kd.R_below (rA HO_0.out) hb); clear hb; obtain ⟨p403, q403, ad403, e403, hx403_0, hx403_1, hx403_2, hx403_3⟩ := aT (at_T61 (Kd.R_reads' HO_0.out).2.2 x7_1); obtain rfl : ad400 = ad403 := (by injection e403); obtain ⟨p404, q404, ad404, e404, hx404_0, hx404_1, hx404_2, hx404_3⟩ := aT (at_T61 (Kd.R_reads' HO_0.out).2.2 x7_1); obtain rfl : ad400 = ad404 := (by injection e404); obtain ⟨p405, q405, ad405, e405, hx405_0, hx405_1, hx405_2, hx405_3⟩ := aT (at_T61 (Kd.R_reads' HO_0.out).2.2 x7_1); obtain rfl : ad400 = ad405 := (by injection e405))))
      go_roundg k1
      case measure => exact oK
      case rel => exact ⟨(wrap64 ((wrap64 ((wrap64 (x5_1 + ((rd_T61 t397 x7_1).f1))) - ((rd_T61 t397 x7_1).f0))) + 1)), ((((rd_T61 t397 x7_1).f1) == 65535)), (wrap64 (x7_1 + 1)), gA, gA, gA, H', ⟨oK⟩, ⟨rA HO_0.out⟩, ⟨bA⟩⟩
     replace H := qB H;rcases H with ⟨rfl, H⟩ | ⟨rfl, H⟩
     ·
      have H' := aK H;clear H;obtain ⟨Ao19, co19, eo19⟩ := Kd.R_slice HO_0.out;subst eo19;obtain ⟨p400, q400, ad400, e400, hx400_0, hx400_1, hx400_2, hx400_3⟩ := aT (at_T61 (Kd.R_reads' HO_0.out).2.2 x7_1);cases e400
      obtain ⟨p401, q401, ad401, e401, hx401_0, hx401_1, hx401_2, hx401_3⟩ := aT (at_T61 (Kd.R_reads' HO_0.out).2.2 x7_1);obtain rfl : ad400 = ad401 := (by injection e401);go_wp2_with (first | (go_at_call 97; (with_reducible refine mB_ (r09_row.calls ((rd_T61 t397 x7_1).f0) ((rd_T61 t397 x7_1).f1) ((rd_T61 t397 x7_1).f2) ((rd_T61 t397 x7_1).f3) false _ A11.out) ?_); clear HB; intro w20 hb HB; replace HO_0 := aK (Kd.R_below (rA HO_0.out) hb); clear hb))
      go_roundg k1
      case measure => exact oK
      case rel => exact ⟨(x5_1), (true), (wrap64 (x7_1 + 1)), gA, gA, gA, H', ⟨oK⟩, ⟨rA HO_0.out⟩, ⟨bA⟩⟩
     have H' := aK H;clear H;obtain ⟨Ao21, co21, eo21⟩ := Kd.R_slice HO_0.out;subst eo21;obtain ⟨p400, q400, ad400, e400, hx400_0, hx400_1, hx400_2, hx400_3⟩ := aT (at_T61 (Kd.R_reads' HO_0.out).2.2 x7_1);cases e400
     obtain ⟨p401, q401, ad401, e401, hx401_0, hx401_1, hx401_2, hx401_3⟩ := aT (at_T61 (Kd.R_reads' HO_0.out).2.2 x7_1);obtain rfl : ad400 = ad401 := (by injection e401);go_wp2_with (first | (go_at_call 97; (with_reducible refine mB_ (r09_row.calls ((rd_T61 t397 x7_1).f0) ((rd_T61 t397 x7_1).f1) ((rd_T61 t397 x7_1).f2) ((rd_T61 t397 x7_1).f3) false _ A11.out) ?_); clear HB; intro w22 hb HB; replace HO_0 := aK (Kd.R_below (rA HO_0.out) hb); clear hb; obtain ⟨p406, q406, ad406, e406, hx406_0, hx406_1, hx406_2, hx406_3⟩ := aT (at_T61 (Kd.R_reads' HO_0.out).2.2 x7_1); obtain rfl : ad400 = ad406 := (by injection e406)))
     go_roundg k1
     case measure => exact oK
     case rel => exact ⟨(x5_1), ((((rd_T61 t397 x7_1).f1) == 65535)), (wrap64 (x7_1 + 1)), gA, gA, gA, H', ⟨oK⟩, ⟨rA HO_0.out⟩, ⟨bA⟩⟩
    replace H := qB H;rcases H with ⟨rfl, H⟩ | ⟨rfl, H⟩
    ·
     replace H := qM H;rcases H with ⟨c24b0, H⟩ | ⟨c24b0, H⟩
     ·
      simp only [Option.some.injEq, Prod.mk.injEq] at H;obtain ⟨rfl, rfl, rfl⟩ := H;obtain ⟨Ao25, co25, eo25⟩ := Kd.R_slice HO_0.out;subst eo25;go_wp2;go_ret3
      exact ⟨eA, bA⟩
     simp only [Option.some.injEq, Prod.mk.injEq] at H;obtain ⟨rfl, rfl, rfl⟩ := H;obtain ⟨Ao26, co26, eo26⟩ := Kd.R_slice HO_0.out;subst eo26;go_wp2;go_ret3
     exact ⟨eA, bA⟩
    replace H := qM H;rcases H with ⟨c27b0, H⟩ | ⟨c27b0, H⟩
    ·
     simp only [Option.some.injEq, Prod.mk.injEq] at H;obtain ⟨rfl, rfl, rfl⟩ := H;obtain ⟨Ao28, co28, eo28⟩ := Kd.R_slice HO_0.out;subst eo28;go_wp2;go_ret3
     exact ⟨eA, bA⟩
    simp only [Option.some.injEq, Prod.mk.injEq] at H;obtain ⟨rfl, rfl, rfl⟩ := H;obtain ⟨Ao29, co29, eo29⟩ := Kd.R_slice HO_0.out;subst eo29;go_wp2;go_ret3
    exact ⟨eA, bA⟩
 simp only [Option.some.injEq, Prod.mk.injEq] at H;obtain ⟨rfl, rfl, rfl⟩ := H;go_enter Tryz.func95, Tryz.ntmps95;go_wp2_with (first | (go_at_call 35; (with_reducible refine mB_ (r08_Is.calls k _ _ l0 false _ ?side1 ?side2 A2.out) ?_); (case side1 => exact cA HR0.out); (case side2 => exact HC0.out); clear HB; intro w30 hb HB; clear hb))
 go_ret3
 exact ⟨eA, bA⟩
mutual
def r09_Put.j0 : Nat → List (S61) → Int → Int → Option (ByteArray × Int)
 | 0, _, _, _ => none
 | k + 1, x0, x4, x5 => r09_Put.l0 k x0 x4 x5 1 0
def r09_Put.l0 : Nat → List (S61) → Int → Int → Int → Int → Option (ByteArray × Int)
 | 0, _, _, _, _, _ => none
 | k + 1, x0, x4, x5, x7, x8 => if (wrap64 (2 * x7)) ≤ x4 then (r09_Put.l0 k x0 x4 x5 (wrap64 (2 * x7)) (wrap64 (x8 + 1))) else (r09_Put.l1 k x0 x4 (⟨#[]⟩ : ByteArray) (([4, wrap64 ((wrap64 (16 + (wrap64 (8 * x4)))) + (wrap64 (2 * x5))), 0, wrap64 (2 * x4), wrap64 (2 * x7), x8, wrap64 ((wrap64 (2 * x4)) - (wrap64 (2 * x7)))] : List Int)) 0)
def r09_Put.l1 : Nat → List (S61) → Int → ByteArray → List Int → Int → Option (ByteArray × Int)
 | 0, _, _, _, _, _ => none
 | k + 1, x0, x4, x9, x10, x11 => if x11 < (x10.length : Int) then (if 0 ≤ x11 then ((r03_Bytes.f k (rd x10 x11) 2).bind fun t420 => (if x9.size + t420.size ≤ 9223372036854775807 then (r09_Put.l1 k x0 x4 (x9 ++ t420) x10 (wrap64 (x11 + 1))) else (none))) else (none)) else (r09_Put.l2 k x0 x4 x9 0)
def r09_Put.l2 : Nat → List (S61) → Int → ByteArray → Int → Option (ByteArray × Int)
 | 0, _, _, _, _ => none
 | k + 1, x0, x4, x9, x12 => if x12 < x4 then (if 0 ≤ x12 then (if x12 < (x0.length : Int) then ((r03_Bytes.f k ((rd_T61 x0 x12).f1) 2).bind fun t422 => (if x9.size + t422.size ≤ 9223372036854775807 then (r09_Put.l2 k x0 x4 (x9 ++ t422) (wrap64 (x12 + 1))) else (none))) else (none)) else (none)) else (if x9.size + 2 ≤ 9223372036854775807 then (r09_Put.l3 k x0 x4 (x9 ++ (⟨#[0, 0]⟩ : ByteArray)) 0) else (none))
def r09_Put.l3 : Nat → List (S61) → Int → ByteArray → Int → Option (ByteArray × Int)
 | 0, _, _, _, _ => none
 | k + 1, x0, x4, x9, x13 => if x13 < x4 then (if 0 ≤ x13 then (if x13 < (x0.length : Int) then ((r03_Bytes.f k ((rd_T61 x0 x13).f0) 2).bind fun t424 => (if x9.size + t424.size ≤ 9223372036854775807 then (r09_Put.l3 k x0 x4 (x9 ++ t424) (wrap64 (x13 + 1))) else (none))) else (none)) else (none)) else (r09_Put.l4 k x0 x4 x9 0)
def r09_Put.l4 : Nat → List (S61) → Int → ByteArray → Int → Option (ByteArray × Int)
 | 0, _, _, _, _ => none
 | k + 1, x0, x4, x9, x14 => if x14 < x4 then (if 0 ≤ x14 then (if x14 < (x0.length : Int) then ((r09_row.f ((rd_T61 x0 x14).f0) ((rd_T61 x0 x14).f1) ((rd_T61 x0 x14).f2) ((rd_T61 x0 x14).f3)).bind fun t426 => (if t426 = true then ((r03_Bytes.f k 0 2).bind fun t427 => (if x9.size + t427.size ≤ 9223372036854775807 then (r09_Put.l4 k x0 x4 (x9 ++ t427) (wrap64 (x14 + 1))) else (none))) else ((r09_plane.f (wrap64 ((wrap64 (65536 + ((rd_T61 x0 x14).f2))) - ((rd_T61 x0 x14).f0)))).bind fun t430 => ((r03_Bytes.f k t430 2).bind fun t431 => (if x9.size + t431.size ≤ 9223372036854775807 then (r09_Put.l4 k x0 x4 (x9 ++ t431) (wrap64 (x14 + 1))) else (none)))))) else (none)) else (none)) else (r09_Put.l5 k x0 x4 x9 0 (⟨#[]⟩ : ByteArray) 0)
def r09_Put.l5 : Nat → List (S61) → Int → ByteArray → Int → ByteArray → Int → Option (ByteArray × Int)
 | 0, _, _, _, _, _, _ => none
 | k + 1, x0, x4, x9, x16, x17, x18 => if x18 < x4 then (if 0 ≤ x18 then (if x18 < (x0.length : Int) then ((r09_row.f ((rd_T61 x0 x18).f0) ((rd_T61 x0 x18).f1) ((rd_T61 x0 x18).f2) ((rd_T61 x0 x18).f3)).bind fun t433 => (if t433 = true then (r09_Put.l6 k x0 x4 x9 x16 x17 x18 (wrap64 ((wrap64 (2 * (wrap64 (x4 - x18)))) + (wrap64 (2 * x16)))) ((rd_T61 x0 x18).f0)) else ((r03_Bytes.f k 0 2).bind fun t439 => (if x9.size + t439.size ≤ 9223372036854775807 then (r09_Put.l5 k x0 x4 (x9 ++ t439) x16 x17 (wrap64 (x18 + 1))) else (none))))) else (none)) else (none)) else (if x9.size + x17.size ≤ 9223372036854775807 then (some (x9 ++ x17, 0)) else (none))
def r09_Put.l6 : Nat → List (S61) → Int → ByteArray → Int → ByteArray → Int → Int → Int → Option (ByteArray × Int)
 | 0, _, _, _, _, _, _, _, _ => none
 | k + 1, x0, x4, x9, x16, x17, x18, x19, x20 => if 0 ≤ x18 then (if x18 < (x0.length : Int) then (if x20 ≤ ((rd_T61 x0 x18).f1) then ((r03_Bytes.f k ((rd_T61 x0 x18).f2) 2).bind fun t437 => (if x17.size + t437.size ≤ 9223372036854775807 then (r09_Put.l6 k x0 x4 x9 (wrap64 (x16 + 1)) (x17 ++ t437) x18 x19 (wrap64 (x20 + 1))) else (none))) else ((r03_Bytes.f k x19 2).bind fun t438 => (if x9.size + t438.size ≤ 9223372036854775807 then (r09_Put.l5 k x0 x4 (x9 ++ t438) x16 x17 (wrap64 (x18 + 1))) else (none)))) else (none)) else (none)
end
def r09_Put.f (k : Nat) (l0 : List (S61)) : Option (ByteArray × Int) := (r09_Many.f k l0).bind fun bt407 => (if bt407.2.2 = 0 then ((r09_kept.f k l0).bind fun t410 => (if (t410.length : Int) < bt407.1 then (if t410.length < 4398046511104 then (r09_Put.j0 k (t410 ++ [(⟨65535, 65535, 0, 1⟩ : S61)]) bt407.1 bt407.2.1) else (none)) else (r09_Put.j0 k t410 bt407.1 bt407.2.1))) else (some ((⟨#[]⟩ : ByteArray), bt407.2.2)))
theorem r09_Put.calls (k : Nat) (A0 : Option Addr) (c0 : Nat) (l0 : List (S61)) (r1 : ByteArray) (r2 : Int) (w : World) (hr0 : Kd.C k61 w A0 l0.length l0) (hc0 : l0.length ≤ c0) (h : r09_Put.f k l0 = some (r1, r2)) :
  Calls Tryz.prog 65 #[.slice A0 l0.length c0] w fun e w' => e = .returned (.tuple #[.string r1, .int .i64 r2]) ∧ Below w.heap.size w w' := by
 have hu61 := Tryz.underlying61;have HR0 := aK hr0;have HC0 := aK hc0;clear hr0 hc0;have HB := aK (Below.refl w.heap.size w);have H : ((r09_Many.f k l0).bind fun bt407 => (if bt407.2.2 = 0 then ((r09_kept.f k l0).bind fun t410 => (if (t410.length : Int) < bt407.1 then (if t410.length < 4398046511104 then (r09_Put.j0 k (t410 ++ [(⟨65535, 65535, 0, 1⟩ : S61)]) bt407.1 bt407.2.1) else (none)) else (r09_Put.j0 k t410 bt407.1 bt407.2.1))) else (some ((⟨#[]⟩ : ByteArray), bt407.2.2)))) = some (r1, r2) := h;clear h;replace H := qS H;obtain ⟨⟨t407, t408, t409⟩, A2, H⟩ := H;try dsimp only at H
 replace H := qF H;rcases H with ⟨c3b0, c3b1, H⟩ | ⟨c3b0, c3b1, H⟩
 ·
  replace H := qS H;obtain ⟨t410, A4, H⟩ := H;have HC5 := aK H;clear H;go_enter Tryz.func65, Tryz.ntmps65;go_upto_if 35 with (first | (go_at_call 95; (with_reducible refine mB_ (r09_Many.calls k _ _ l0 t407 t408 t409 _ ?side1 ?side2 A2.out) ?_); (case side1 => exact cA HR0.out); (case side2 => exact HC0.out); clear HB; intro w6 hb HB; clear hb) | (go_at_call 96; (with_reducible refine (r09_kept.calls k _ _ l0 t410 _ ?side1 ?side2 A4.out).mono ?_); (case side1 => exact cB HR0.out); (case side2 => exact HC0.out); rintro e w7 ⟨v411, rfl, ho0, hb⟩; have HO412 := aK (Kd.R_lower ho0 (below_size bA)); replace HB := aK (below_step bA hb); (try clear hb ho0); obtain ⟨Ao8, co8, eo8⟩ := Kd.R_slice HO412.out; subst eo8))
  (try simp only [Act.put, List.setIfInBounds_toArray, List.set_cons_zero, List.set_cons_succ])
  go_cut [0] (fun v0 wc => ∃ (kq : Nat) (x0_4 : List (S61)), Aside0 (r09_Put.j0 kq x0_4 t407 t408 = some (r1, r2)) ∧ Aside0 (kq ≤ k) ∧ Aside0 (Kd.R k61 61 wc w.heap.size (fun _ => True) v0 x0_4) ∧ Aside0 (Below w.heap.size w wc))
  case first =>
   have H := HC5.out;clear HC5;replace H := qL H;rcases H with ⟨c9b0, H⟩ | ⟨c9b0, H⟩
   ·
    (first | rw [c9b0] | (simp only [i64_w, i32_w]; rw [c9b0]) | skip)
    replace H := nC H;obtain ⟨c10, H⟩ := H;have LMc10 := aK c10;clear c10;obtain ⟨y413, hy413⟩ : ∃ y_ : List (S61), y_ = (t410 ++ [(⟨65535, 65535, 0, 1⟩ : S61)]) := ⟨_, rfl⟩;replace H : (r09_Put.j0 k y413 t407 t408) = some (r1, r2) := by rw [hy413]; exact H
    have Ny413 := aK hy413;clear hy413;have H' := aK H;clear H;go_wp2_with (first | ((with_reducible refine gate_builtin (b := .append) (xs := #[.tmp 36, .tmp 38]) rfl ?_); at_builtin; refine Kd.R_append k61 (w0 := w) w.heap.size rfl (.tmp 36) (.tmp 38) 22 61 (.agg #[(.int .i64 0), (.int .i64 0), (.int .i64 0), (.int .i64 0)]) 32 rfl Tryz.underlying22 info61 rfl (by decide) (by omega) (.slice Ao8 t410.length co8) t410 (⟨65535, 65535, 0, 1⟩ : S61) [.int .i64 65535, .int .i64 65535, .int .i64 0, .int .i64 1] (fun _ => True) (fun _ => False) rfl rfl ?aP (fun _ hk => hk.elim) ?aF ?aO ?aB ?aS ?aL ?_; (case aP => exact k61_mkM _ _ _ (⟨65535, 65535, 0, 1⟩ : S61)); (case aB => exact bA); (case aF => exact (fun _ _ => trivial)); (case aO => exact (rA HO412.out)); (case aS => exact (below_size bA)); (case aL => have := LMc10.out; omega); intro v414 w11 ho hb hg hat; rw [← Ny413.out] at ho; have n0_ := aK (hb); have n1_ := aK (ho); clear HB; clear HO412; have HB := n0_; have HO415 := n1_; clear n0_ n1_; clear ho hb hg hat))
    go_meet
    case rel => exact ⟨_, (y413), H', ⟨oK⟩, ⟨rA HO415.out⟩, ⟨bA⟩⟩
   (first | rw [c9b0] | (simp only [i64_w, i32_w]; rw [c9b0]) | skip)
   have H' := aK H;clear H;go_wp2;go_meet
   case rel => exact ⟨_, (t410), H', ⟨oK⟩, ⟨rA HO412.out⟩, ⟨bA⟩⟩
  case rest =>
   clear HC5;obtain ⟨kq, x0_4, HA, HJ4, HO_0, HB⟩ := hcut;cases kq with
   | zero => exact absurd HA.out (by simp [r09_Put.j0])
   | succ kj4 =>
    have H := HA.out;clear HA;simp only [r09_Put.j0] at H;have H' := aK H;clear H;go_wp2;go_loopg [7, 8] kj4 (fun kq v7 v8 w' => ∃ (x7_2 : Int) (x8_2 : Int), v7 = .int .i64 x7_2 ∧ v8 = .int .i64 x8_2 ∧ Aside0 (r09_Put.l0 kq x0_4 t407 t408 x7_2 x8_2 = some (r1, r2)) ∧ Aside0 (kq ≤ kj4) ∧ Aside0 (Kd.R k61 61 w' w.heap.size (fun _ => True) u0 x0_4) ∧ Aside0 (Below w.heap.size w w'))
    case atStart => exact ⟨(1), (0), gA, gA, H', ⟨Nat.le_refl _⟩, ⟨rA HO_0.out⟩, ⟨bA⟩⟩
    case round =>
     clear H';obtain ⟨x7_2, x8_2, rfl, rfl, HA, HK2, HO_0, HB⟩ := hrel;cases gk with
     | zero => exact absurd HA.out (by simp [r09_Put.l0])
     | succ k2 =>
      have H := HA.out;clear HA;simp only [r09_Put.l0] at H;replace H := qL H;rcases H with ⟨c12b0, H⟩ | ⟨c12b0, H⟩
      ·
       have H' := aK H;clear H;go_wp2;go_roundg k2
       case measure => exact oK
       case rel => exact ⟨(wrap64 (2 * x7_2)), (wrap64 (x8_2 + 1)), gA, gA, H', ⟨oK⟩, ⟨rA HO_0.out⟩, ⟨bA⟩⟩
      obtain ⟨y416, hy416⟩ : ∃ y_ : List Int, y_ = (([4, wrap64 ((wrap64 (16 + (wrap64 (8 * t407)))) + (wrap64 (2 * t408))), 0, wrap64 (2 * t407), wrap64 (2 * x7_2), x8_2, wrap64 ((wrap64 (2 * t407)) - (wrap64 (2 * x7_2)))] : List Int)) := ⟨_, rfl⟩;replace H : (r09_Put.l1 k2 x0_4 t407 (⟨#[]⟩ : ByteArray) y416 0) = some (r1, r2) := by rw [hy416]; exact H
      have Ny416 := aK hy416;clear hy416;have H' := aK H;clear H;go_wp2_with (first | ((with_reducible refine gate_dst (N := 64) rfl ?_); refine Kd.R_lit (Kd.int .i64) _ 3 ?hg (N := 64) ?hd (xs := ([4, wrap64 ((wrap64 (16 + (wrap64 (8 * t407)))) + (wrap64 (2 * t408))), 0, wrap64 (2 * t407), wrap64 (2 * x7_2), x8_2, wrap64 ((wrap64 (2 * t407)) - (wrap64 (2 * x7_2)))] : List Int)) (inner := [.int .i64 4, .int .i64 (wrap64 ((wrap64 (16 + (wrap64 (8 * t407)))) + (wrap64 (2 * t408)))), .int .i64 0, .int .i64 (wrap64 (2 * t407)), .int .i64 (wrap64 (2 * x7_2)), .int .i64 x8_2, .int .i64 (wrap64 ((wrap64 (2 * t407)) - (wrap64 (2 * x7_2))))]) (ok := fun _ => True) (okp := fun _ => True) ?hr ?hp (fun _ hk => hk) trivial (Below.refl _ _) (Nat.le_refl _) (by simp) ?_; (case hd => rfl); (case hg => rfl); (case hr => exact hA); (case hp => exact (Reps.one (show Kd.M (Kd.int .i64) _ _ _ 4 [.int .i64 4] from rfl) (Reps.one (show Kd.M (Kd.int .i64) _ _ _ (wrap64 ((wrap64 (16 + (wrap64 (8 * t407)))) + (wrap64 (2 * t408)))) [.int .i64 (wrap64 ((wrap64 (16 + (wrap64 (8 * t407)))) + (wrap64 (2 * t408))))] from rfl) (Reps.one (show Kd.M (Kd.int .i64) _ _ _ 0 [.int .i64 0] from rfl) (Reps.one (show Kd.M (Kd.int .i64) _ _ _ (wrap64 (2 * t407)) [.int .i64 (wrap64 (2 * t407))] from rfl) (Reps.one (show Kd.M (Kd.int .i64) _ _ _ (wrap64 (2 * x7_2)) [.int .i64 (wrap64 (2 * x7_2))] from rfl) (Reps.one (show Kd.M (Kd.int .i64) _ _ _ x8_2 [.int .i64 x8_2] from rfl) (Reps.one (show Kd.M (Kd.int .i64) _ _ _ (wrap64 ((wrap64 (2 * t407)) - (wrap64 (2 * x7_2)))) [.int .i64 (wrap64 ((wrap64 (2 * t407)) - (wrap64 (2 * x7_2))))] from rfl) (Reps.none _ _))))))))); intro v417 w13 ho14 hb hg_ hnew_; clear hg_ hnew_; (first | rw [← Ny416.out] at ho14 | (simp only [Int.reduceToNat] at ho14; rw [← Ny416.out] at ho14)); have HO418 := aK (Kd.R_lower ho14 (below_size bA)); replace HO_0 := aK (Kd.R_below (rA HO_0.out) hb); replace HB := aK (below_step bA hb); clear hb ho14))
      go_loopg [9, 11] k2 (fun kq v9 v11 w' => ∃ (x9_3 : ByteArray) (x11_3 : Int), v9 = .string x9_3 ∧ v11 = .int .i64 x11_3 ∧ Aside0 (r09_Put.l1 kq x0_4 t407 x9_3 y416 x11_3 = some (r1, r2)) ∧ Aside0 (kq ≤ k2) ∧ Aside0 (Kd.R k61 61 w' w.heap.size (fun _ => True) u0 x0_4) ∧ Aside0 (Kd.R (Kd.int .i64) 3 w' w.heap.size (fun _ => True) v417 y416) ∧ Aside0 (Below w.heap.size w w'))
      case atStart => exact ⟨((⟨#[]⟩ : ByteArray)), (0), gA, gA, H', ⟨Nat.le_refl _⟩, ⟨rA HO_0.out⟩, ⟨rA HO418.out⟩, ⟨bA⟩⟩
      case round =>
       clear H';obtain ⟨x9_3, x11_3, rfl, rfl, HA, HK3, HO_0, HO_10, HB⟩ := hrel;cases gk with
       | zero => exact absurd HA.out (by simp [r09_Put.l1])
       | succ k3 =>
        have H := HA.out;clear HA;simp only [r09_Put.l1] at H;replace H := qL H;rcases H with ⟨c15b0, H⟩ | ⟨c15b0, H⟩
        ·
         replace H := nL H;obtain ⟨c16b0, H⟩ := H;replace H := qS H;obtain ⟨t420, A17, H⟩ := H;replace H := nD H;obtain ⟨c18, c18b0, c18b1, H⟩ := H;try have c18b2 : (9223372036854775807 < x9_3.size + t420.size) = False := eq_false (Nat.not_lt.2 c18)
         have H' := aK H;clear H;obtain ⟨Ao19, co19, eo19⟩ := Kd.R_slice HO_10.out;subst eo19;obtain ⟨p419, q419, ad419, e419, hx419_0⟩ := aT (Kd.at_int (Kd.R_reads' HO_10.out).2.2 x11_3);cases e419
         go_wp2_with (first | (go_at_call 94; (with_reducible refine mB_ (r03_Bytes.calls k3 (rd y416 x11_3) 2 t420 _ A17.out) ?_); clear HB; intro w20 hb HB; replace HO_0 := aK (Kd.R_below (rA HO_0.out) hb); replace HO_10 := aK (Kd.R_below (rA HO_10.out) hb); clear hb))
         go_roundg k3
         case measure => exact oK
         case rel => exact ⟨(x9_3 ++ t420), (wrap64 (x11_3 + 1)), gA, gA, H', ⟨oK⟩, ⟨rA HO_0.out⟩, ⟨rA HO_10.out⟩, ⟨bA⟩⟩
        have H' := aK H;clear H;obtain ⟨Ao21, co21, eo21⟩ := Kd.R_slice HO_10.out;subst eo21;go_wp2;go_loopg [9, 12] k3 (fun kq v9 v12 w' => ∃ (x9_4 : ByteArray) (x12_4 : Int), v9 = .string x9_4 ∧ v12 = .int .i64 x12_4 ∧ Aside0 (r09_Put.l2 kq x0_4 t407 x9_4 x12_4 = some (r1, r2)) ∧ Aside0 (kq ≤ k3) ∧ Aside0 (Kd.R k61 61 w' w.heap.size (fun _ => True) u0 x0_4) ∧ Aside0 (Below w.heap.size w w'))
        case atStart => exact ⟨(x9_3), (0), gA, gA, H', ⟨Nat.le_refl _⟩, ⟨rA HO_0.out⟩, ⟨bA⟩⟩
        case round =>
         clear H';try clear q4 hx4 hx419_0 q419
         obtain ⟨x9_4, x12_4, rfl, rfl, HA, HK4, HO_0, HB⟩ := hrel;cases gk with
         | zero => exact absurd HA.out (by simp [r09_Put.l2])
         | succ k4 =>
          have H := HA.out;clear HA;simp only [r09_Put.l2] at H;replace H := qL H;rcases H with ⟨c22b0, H⟩ | ⟨c22b0, H⟩
          ·
           replace H := nL H;obtain ⟨c23b0, H⟩ := H;replace H := nL H;obtain ⟨c24b0, H⟩ := H;replace H := qS H;obtain ⟨t422, A25, H⟩ := H;replace H := nD H;obtain ⟨c26, c26b0, c26b1, H⟩ := H;try have c26b2 : (9223372036854775807 < x9_4.size + t422.size) = False := eq_false (Nat.not_lt.2 c26)
           have H' := aK H;clear H;obtain ⟨Ao27, co27, eo27⟩ := Kd.R_slice HO_0.out;subst eo27;obtain ⟨p421, q421, ad421, e421, hx421_0, hx421_1, hx421_2, hx421_3⟩ := aT (at_T61 (Kd.R_reads' HO_0.out).2.2 x12_4);cases e421
           go_wp2_with (first | (go_at_call 94; (with_reducible refine mB_ (r03_Bytes.calls k4 ((rd_T61 x0_4 x12_4).f1) 2 t422 _ A25.out) ?_); clear HB; intro w28 hb HB; replace HO_0 := aK (Kd.R_below (rA HO_0.out) hb); clear hb))
           go_roundg k4
           case measure => exact oK
           case rel => exact ⟨(x9_4 ++ t422), (wrap64 (x12_4 + 1)), gA, gA, H', ⟨oK⟩, ⟨rA HO_0.out⟩, ⟨bA⟩⟩
          replace H := nD H;obtain ⟨c29, c29b0, c29b1, H⟩ := H;try have c29b2 : (9223372036854775807 < x9_4.size + 2) = False := eq_false (Nat.not_lt.2 c29)
          have H' := aK H;clear H;go_wp2;go_loopg [9, 13] k4 (fun kq v9 v13 w' => ∃ (x9_5 : ByteArray) (x13_5 : Int), v9 = .string x9_5 ∧ v13 = .int .i64 x13_5 ∧ Aside0 (r09_Put.l3 kq x0_4 t407 x9_5 x13_5 = some (r1, r2)) ∧ Aside0 (kq ≤ k4) ∧ Aside0 (Kd.R k61 61 w' w.heap.size (fun _ => True) u0 x0_4) ∧ Aside0 (Below w.heap.size w w'))
          case atStart => exact ⟨(x9_4 ++ (⟨#[0, 0]⟩ : ByteArray)), (0), gA, gA, H', ⟨Nat.le_refl _⟩, ⟨rA HO_0.out⟩, ⟨bA⟩⟩
          case round =>
           clear H';try clear q4 hx4 hx419_0 hx421_0 hx421_1 hx421_2 hx421_3 q4 q419 q421
           obtain ⟨x9_5, x13_5, rfl, rfl, HA, HK5, HO_0, HB⟩ := hrel;cases gk with
           | zero => exact absurd HA.out (by simp [r09_Put.l3])
           | succ k5 =>
            have H := HA.out;clear HA;simp only [r09_Put.l3] at H;replace H := qL H;rcases H with ⟨c30b0, H⟩ | ⟨c30b0, H⟩
            ·
             replace H := nL H;obtain ⟨c31b0, H⟩ := H;replace H := nL H;obtain ⟨c32b0, H⟩ := H;replace H := qS H;obtain ⟨t424, A33, H⟩ := H;replace H := nD H;obtain ⟨c34, c34b0, c34b1, H⟩ := H;try have c34b2 : (9223372036854775807 < x9_5.size + t424.size) = False := eq_false (Nat.not_lt.2 c34)
             have H' := aK H;clear H;obtain ⟨Ao35, co35, eo35⟩ := Kd.R_slice HO_0.out;subst eo35;obtain ⟨p423, q423, ad423, e423, hx423_0, hx423_1, hx423_2, hx423_3⟩ := aT (at_T61 (Kd.R_reads' HO_0.out).2.2 x13_5);cases e423
             go_wp2_with (first | (go_at_call 94; (with_reducible refine mB_ (r03_Bytes.calls k5 ((rd_T61 x0_4 x13_5).f0) 2 t424 _ A33.out) ?_); clear HB; intro w36 hb HB; replace HO_0 := aK (Kd.R_below (rA HO_0.out) hb); clear hb))
             go_roundg k5
             case measure => exact oK
             case rel => exact ⟨(x9_5 ++ t424), (wrap64 (x13_5 + 1)), gA, gA, H', ⟨oK⟩, ⟨rA HO_0.out⟩, ⟨bA⟩⟩
            have H' := aK H;clear H;go_wp2;go_loopg [9, 14] k5 (fun kq v9 v14 w' => ∃ (x9_6 : ByteArray) (x14_6 : Int), v9 = .string x9_6 ∧ v14 = .int .i64 x14_6 ∧ Aside0 (r09_Put.l4 kq x0_4 t407 x9_6 x14_6 = some (r1, r2)) ∧ Aside0 (kq ≤ k5) ∧ Aside0 (Kd.R k61 61 w' w.heap.size (fun _ => True) u0 x0_4) ∧ Aside0 (Below w.heap.size w w'))
            case atStart => exact ⟨(x9_5), (0), gA, gA, H', ⟨Nat.le_refl _⟩, ⟨rA HO_0.out⟩, ⟨bA⟩⟩
            case round =>
             clear H';try clear q4 hx4 hx419_0 hx421_0 hx421_1 hx421_2 hx421_3 hx423_0 hx423_1 hx423_2 hx423_3 q4 q419 q421 q423
             obtain ⟨x9_6, x14_6, rfl, rfl, HA, HK6, HO_0, HB⟩ := hrel;cases gk with
             | zero => exact absurd HA.out (by simp [r09_Put.l4])
             | succ k6 =>
              have H := HA.out;clear HA;simp only [r09_Put.l4] at H;replace H := qL H;rcases H with ⟨c37b0, H⟩ | ⟨c37b0, H⟩
              ·
               replace H := nL H;obtain ⟨c38b0, H⟩ := H;replace H := nL H;obtain ⟨c39b0, H⟩ := H;replace H := qS H;obtain ⟨t426, A40, H⟩ := H;replace H := qB H;rcases H with ⟨rfl, H⟩ | ⟨rfl, H⟩
               ·
                replace H := qS H;obtain ⟨t427, A42, H⟩ := H;replace H := nD H;obtain ⟨c43, c43b0, c43b1, H⟩ := H;try have c43b2 : (9223372036854775807 < x9_6.size + t427.size) = False := eq_false (Nat.not_lt.2 c43)
                have H' := aK H;clear H;obtain ⟨Ao44, co44, eo44⟩ := Kd.R_slice HO_0.out;subst eo44;obtain ⟨p425, q425, ad425, e425, hx425_0, hx425_1, hx425_2, hx425_3⟩ := aT (at_T61 (Kd.R_reads' HO_0.out).2.2 x14_6);cases e425
                go_wp2_with (first | (go_at_call 97; (with_reducible refine mB_ (r09_row.calls ((rd_T61 x0_4 x14_6).f0) ((rd_T61 x0_4 x14_6).f1) ((rd_T61 x0_4 x14_6).f2) ((rd_T61 x0_4 x14_6).f3) true _ A40.out) ?_); clear HB; intro w45 hb HB; replace HO_0 := aK (Kd.R_below (rA HO_0.out) hb); clear hb) | (go_at_call 94; (with_reducible refine mB_ (r03_Bytes.calls k6 0 2 t427 _ A42.out) ?_); clear HB; intro w46 hb HB; replace HO_0 := aK (Kd.R_below (rA HO_0.out) hb); clear hb))
                go_roundg k6
                case measure => exact oK
                case rel => exact ⟨(x9_6 ++ t427), (wrap64 (x14_6 + 1)), gA, gA, H', ⟨oK⟩, ⟨rA HO_0.out⟩, ⟨bA⟩⟩
               replace H := qS H;obtain ⟨t430, A47, H⟩ := H;replace H := qS H;obtain ⟨t431, A48, H⟩ := H;replace H := nD H;obtain ⟨c49, c49b0, c49b1, H⟩ := H;try have c49b2 : (9223372036854775807 < x9_6.size + t431.size) = False := eq_false (Nat.not_lt.2 c49)
               have H' := aK H;clear H;obtain ⟨Ao50, co50, eo50⟩ := Kd.R_slice HO_0.out;subst eo50;obtain ⟨p425, q425, ad425, e425, hx425_0, hx425_1, hx425_2, hx425_3⟩ := aT (at_T61 (Kd.R_reads' HO_0.out).2.2 x14_6);cases e425
               go_wp2_with (first | (go_at_call 97; (with_reducible refine mB_ (r09_row.calls ((rd_T61 x0_4 x14_6).f0) ((rd_T61 x0_4 x14_6).f1) ((rd_T61 x0_4 x14_6).f2) ((rd_T61 x0_4 x14_6).f3) false _ A40.out) ?_); clear HB; intro w51 hb HB; replace HO_0 := aK (Kd.R_below (rA HO_0.out) hb); clear hb; obtain ⟨p428, q428, ad428, e428, hx428_0, hx428_1, hx428_2, hx428_3⟩ := aT (at_T61 (Kd.R_reads' HO_0.out).2.2 x14_6); obtain rfl : ad425 = ad428 := (by injection e428); obtain ⟨p429, q429, ad429, e429, hx429_0, hx429_1, hx429_2, hx429_3⟩ := aT (at_T61 (Kd.R_reads' HO_0.out).2.2 x14_6); obtain rfl : ad425 = ad429 := (by injection e429)) | (go_at_call 92; (with_reducible refine (r09_plane.calls (wrap64 ((wrap64 (65536 + ((rd_T61 x0_4 x14_6).f2))) - ((rd_T61 x0_4 x14_6).f0))) t430 _ A47.out).mono ?_); rintro e w' ⟨rfl, ⟨nd, rfl⟩⟩; (try first | exact ⟨rfl, _, World.drewN_drewN _ _ _⟩ | exact ⟨rfl, _, Eq.trans (World.drewN_drewN _ _ _) (congrArg (World.drewN _) (Nat.add_assoc _ _ _))⟩)) | (go_at_call 94; (with_reducible refine mB_ (r03_Bytes.calls k6 t430 2 t431 _ A48.out) ?_); clear HB; intro w52 hb HB; replace HO_0 := aK (Kd.R_below (rA HO_0.out) hb); clear hb))
               repeat (go_quiet (first | (go_at_call 97; (with_reducible refine mB_ (r09_row.calls ((rd_T61 x0_4 x14_6).f0) ((rd_T61 x0_4 x14_6).f1) ((rd_T61 x0_4 x14_6).f2) ((rd_T61 x0_4 x14_6).f3) false _ A40.out) ?_); clear HB; intro w51 hb HB; replace HO_0 := aK (Kd.R_below (rA HO_0.out) hb); clear hb; obtain ⟨p428, q428, ad428, e428, hx428_0, hx428_1, hx428_2, hx428_3⟩ := aT (at_T61 (Kd.R_reads' HO_0.out).2.2 x14_6); obtain rfl : ad425 = ad428 := (by injection e428); obtain ⟨p429, q429, ad429, e429, hx429_0, hx429_1, hx429_2, hx429_3⟩ := aT (at_T61 (Kd.R_reads' HO_0.out).2.2 x14_6); obtain rfl : ad425 = ad429 := (by injection e429)) | (go_at_call 92; (with_reducible refine (r09_plane.calls (wrap64 ((wrap64 (65536 + ((rd_T61 x0_4 x14_6).f2))) - ((rd_T61 x0_4 x14_6).f0))) t430 _ A47.out).mono ?_); rintro e w' ⟨rfl, ⟨nd, rfl⟩⟩; (try first | exact ⟨rfl, _, World.drewN_drewN _ _ _⟩ | exact ⟨rfl, _, Eq.trans (World.drewN_drewN _ _ _) (congrArg (World.drewN _) (Nat.add_assoc _ _ _))⟩)) | (go_at_call 94; (with_reducible refine mB_ (r03_Bytes.calls k6 t430 2 t431 _ A48.out) ?_); clear HB; intro w52 hb HB; replace HO_0 := aK (Kd.R_below (rA HO_0.out) hb); clear hb)); try go_wp2_with (first | (go_at_call 97; (with_reducible refine mB_ (r09_row.calls ((rd_T61 x0_4 x14_6).f0) ((rd_T61 x0_4 x14_6).f1) ((rd_T61 x0_4 x14_6).f2) ((rd_T61 x0_4 x14_6).f3) false _ A40.out) ?_); clear HB; intro w51 hb HB; replace HO_0 := aK (Kd.R_below (rA HO_0.out) hb); clear hb; obtain ⟨p428, q428, ad428, e428, hx428_0, hx428_1, hx428_2, hx428_3⟩ := aT (at_T61 (Kd.R_reads' HO_0.out).2.2 x14_6); obtain rfl : ad425 = ad428 := (by injection e428); obtain ⟨p429, q429, ad429, e429, hx429_0, hx429_1, hx429_2, hx429_3⟩ := aT (at_T61 (Kd.R_reads' HO_0.out).2.2 x14_6); obtain rfl : ad425 = ad429 := (by injection e429)) | (go_at_call 92; (with_reducible refine (r09_plane.calls (wrap64 ((wrap64 (65536 + ((rd_T61 x0_4 x14_6).f2))) - ((rd_T61 x0_4 x14_6).f0))) t430 _ A47.out).mono ?_); rintro e w' ⟨rfl, ⟨nd, rfl⟩⟩; (try first | exact ⟨rfl, _, World.drewN_drewN _ _ _⟩ | exact ⟨rfl, _, Eq.trans (World.drewN_drewN _ _ _) (congrArg (World.drewN _) (Nat.add_assoc _ _ _))⟩)) | (go_at_call 94; (with_reducible refine mB_ (r03_Bytes.calls k6 t430 2 t431 _ A48.out) ?_); clear HB; intro w52 hb HB; replace HO_0 := aK (Kd.R_below (rA HO_0.out) hb); clear hb)))
               go_roundg k6
               case measure => exact oK
               case rel => exact ⟨(x9_6 ++ t431), (wrap64 (x14_6 + 1)), gA, gA, H', ⟨oK⟩, ⟨rA HO_0.out⟩, ⟨bA⟩⟩
              have H' := aK H;clear H;go_wp2;go_loopg [9, 16, 17, 18] k6 (fun kq v9 v16 v17 v18 w' => ∃ (x9_7 : ByteArray) (x16_7 : Int) (x17_7 : ByteArray) (x18_7 : Int), v9 = .string x9_7 ∧ v16 = .int .i64 x16_7 ∧ v17 = .string x17_7 ∧ v18 = .int .i64 x18_7 ∧ Aside0 (r09_Put.l5 kq x0_4 t407 x9_7 x16_7 x17_7 x18_7 = some (r1, r2)) ∧ Aside0 (kq ≤ k6) ∧ Aside0 (Kd.R k61 61 w' w.heap.size (fun _ => True) u0 x0_4) ∧ Aside0 (Below w.heap.size w w'))
              case atStart => exact ⟨(x9_6), (0), ((⟨#[]⟩ : ByteArray)), (0), gA, gA, gA, gA, H', ⟨Nat.le_refl _⟩, ⟨rA HO_0.out⟩, ⟨bA⟩⟩
              case round =>
               clear H';try clear q4 hx4 q41 hx41 q42 hx42 hx419_0 hx421_0 hx421_1 hx421_2 hx421_3 hx423_0 hx423_1 hx423_2 hx423_3 hx425_0 hx425_1 hx425_2 hx425_3 hx428_0 hx428_1 hx428_2 hx428_3 hx429_0 hx429_1 hx429_2 hx429_3 q4 q419 q421 q423 q425 q428 q429
               obtain ⟨x9_7, x16_7, x17_7, x18_7, rfl, rfl, rfl, rfl, HA, HK7, HO_0, HB⟩ := hrel;cases gk with
               | zero => exact absurd HA.out (by simp [r09_Put.l5])
               | succ k7 =>
                have H := HA.out;clear HA;simp only [r09_Put.l5] at H;replace H := qL H;rcases H with ⟨c53b0, H⟩ | ⟨c53b0, H⟩
                ·
                 replace H := nL H;obtain ⟨c54b0, H⟩ := H;replace H := nL H;obtain ⟨c55b0, H⟩ := H;replace H := qS H;obtain ⟨t433, A56, H⟩ := H;replace H := qB H;rcases H with ⟨rfl, H⟩ | ⟨rfl, H⟩
                 ·
                  have H' := aK H;clear H;obtain ⟨Ao58, co58, eo58⟩ := Kd.R_slice HO_0.out;subst eo58;obtain ⟨p432, q432, ad432, e432, hx432_0, hx432_1, hx432_2, hx432_3⟩ := aT (at_T61 (Kd.R_reads' HO_0.out).2.2 x18_7);cases e432
                  go_wp2_with (first | (go_at_call 97; (with_reducible refine mB_ (r09_row.calls ((rd_T61 x0_4 x18_7).f0) ((rd_T61 x0_4 x18_7).f1) ((rd_T61 x0_4 x18_7).f2) ((rd_T61 x0_4 x18_7).f3) true _ A56.out) ?_); clear HB; intro w59 hb HB; replace HO_0 := aK (Kd.R_below (rA HO_0.out) hb); clear hb; obtain ⟨p434, q434, ad434, e434, hx434_0, hx434_1, hx434_2, hx434_3⟩ := aT (at_T61 (Kd.R_reads' HO_0.out).2.2 x18_7); obtain rfl : ad432 = ad434 := (by injection e434)))
                  go_loopg [16, 17, 20] k7 (fun kq v16 v17 v20 w' => ∃ (x16_8 : Int) (x17_8 : ByteArray) (x20_8 : Int), v16 = .int .i64 x16_8 ∧ v17 = .string x17_8 ∧ v20 = .int .i64 x20_8 ∧ Aside0 (r09_Put.l6 kq x0_4 t407 x9_7 x16_8 x17_8 x18_7 (wrap64 ((wrap64 (2 * (wrap64 (t407 - x18_7)))) + (wrap64 (2 * x16_7)))) x20_8 = some (r1, r2)) ∧ Aside0 (kq ≤ k7) ∧ Aside0 (Kd.R k61 61 w' w.heap.size (fun _ => True) (.slice (some ad432) x0_4.length co58) x0_4) ∧ Aside0 (Below w.heap.size w w'))
                  case atStart => exact ⟨(x16_7), (x17_7), ((rd_T61 x0_4 x18_7).f0), gA, gA, gA, H', ⟨Nat.le_refl _⟩, ⟨rA HO_0.out⟩, ⟨bA⟩⟩
                  case round =>
                   clear H';try clear q4 hx4 q41 hx41 q42 hx42 q43 hx43 hx419_0 hx421_0 hx421_1 hx421_2 hx421_3 hx423_0 hx423_1 hx423_2 hx423_3 hx425_0 hx425_1 hx425_2 hx425_3 hx428_0 hx428_1 hx428_2 hx428_3 hx429_0 hx429_1 hx429_2 hx429_3 hx432_0 hx432_1 hx432_2 hx432_3 hx434_0 hx434_1 hx434_2 hx434_3 q4 q41 q419 q42 q421 q423 q425 q428 q429 q432 q434
                   obtain ⟨x16_8, x17_8, x20_8, rfl, rfl, rfl, HA, HK8, HO_0, HB⟩ := hrel;cases gk with
                   | zero => exact absurd HA.out (by simp [r09_Put.l6])
                   | succ k8 =>
                    have H := HA.out;clear HA;simp only [r09_Put.l6] at H;replace H := nL H;obtain ⟨c60b0, H⟩ := H;replace H := nL H;obtain ⟨c61b0, H⟩ := H;replace H := qL H;rcases H with ⟨c62b0, H⟩ | ⟨c62b0, H⟩
                    ·
                     replace H := qS H;obtain ⟨t437, A63, H⟩ := H;replace H := nD H;obtain ⟨c64, c64b0, c64b1, H⟩ := H;try have c64b2 : (9223372036854775807 < x17_8.size + t437.size) = False := eq_false (Nat.not_lt.2 c64)
                     have H' := aK H;clear H;obtain ⟨p435, q435, ad435, e435, hx435_0, hx435_1, hx435_2, hx435_3⟩ := aT (at_T61 (Kd.R_reads' HO_0.out).2.2 x18_7);obtain rfl : ad432 = ad435 := (by injection e435);obtain ⟨p436, q436, ad436, e436, hx436_0, hx436_1, hx436_2, hx436_3⟩ := aT (at_T61 (Kd.R_reads' HO_0.out).2.2 x18_7);obtain rfl : ad432 = ad436 := (by injection e436);go_wp2_with (first | (go_at_call 94; (with_reducible refine mB_ (r03_Bytes.calls k8 ((rd_T61 x0_4 x18_7).f2) 2 t437 _ A63.out) ?_); clear HB; intro w65 hb HB; replace HO_0 := aK (Kd.R_below (rA HO_0.out) hb); clear hb))
                     go_roundg k8
                     case measure => exact oK
                     case rel => exact ⟨(wrap64 (x16_8 + 1)), (x17_8 ++ t437), (wrap64 (x20_8 + 1)), gA, gA, gA, H', ⟨oK⟩, ⟨rA HO_0.out⟩, ⟨bA⟩⟩
                    replace H := qS H;obtain ⟨t438, A66, H⟩ := H;replace H := nD H;obtain ⟨c67, c67b0, c67b1, H⟩ := H;try have c67b2 : (9223372036854775807 < x9_7.size + t438.size) = False := eq_false (Nat.not_lt.2 c67)
                    have H' := aK H;clear H;obtain ⟨p435, q435, ad435, e435, hx435_0, hx435_1, hx435_2, hx435_3⟩ := aT (at_T61 (Kd.R_reads' HO_0.out).2.2 x18_7);obtain rfl : ad432 = ad435 := (by injection e435);go_wp2_with (first | (go_at_call 94; (with_reducible refine mB_ (r03_Bytes.calls k8 (wrap64 ((wrap64 (2 * (wrap64 (t407 - x18_7)))) + (wrap64 (2 * x16_7)))) 2 t438 _ A66.out) ?_); clear HB; intro w68 hb HB; replace HO_0 := aK (Kd.R_below (rA HO_0.out) hb); clear hb))
                    go_roundg k8
                    case measure => exact oK
                    case rel => exact ⟨(x9_7 ++ t438), (x16_8), (x17_8), (wrap64 (x18_7 + 1)), gA, gA, gA, gA, H', ⟨oK⟩, ⟨rA HO_0.out⟩, ⟨bA⟩⟩
                 replace H := qS H;obtain ⟨t439, A69, H⟩ := H;replace H := nD H;obtain ⟨c70, c70b0, c70b1, H⟩ := H;try have c70b2 : (9223372036854775807 < x9_7.size + t439.size) = False := eq_false (Nat.not_lt.2 c70)
                 have H' := aK H;clear H;obtain ⟨Ao71, co71, eo71⟩ := Kd.R_slice HO_0.out;subst eo71;obtain ⟨p432, q432, ad432, e432, hx432_0, hx432_1, hx432_2, hx432_3⟩ := aT (at_T61 (Kd.R_reads' HO_0.out).2.2 x18_7);cases e432
                 go_wp2_with (first | (go_at_call 97; (with_reducible refine mB_ (r09_row.calls ((rd_T61 x0_4 x18_7).f0) ((rd_T61 x0_4 x18_7).f1) ((rd_T61 x0_4 x18_7).f2) ((rd_T61 x0_4 x18_7).f3) false _ A56.out) ?_); clear HB; intro w72 hb HB; replace HO_0 := aK (Kd.R_below (rA HO_0.out) hb); clear hb) | (go_at_call 94; (with_reducible refine mB_ (r03_Bytes.calls k7 0 2 t439 _ A69.out) ?_); clear HB; intro w73 hb HB; replace HO_0 := aK (Kd.R_below (rA HO_0.out) hb); clear hb))
                 go_roundg k7
                 case measure => exact oK
                 case rel => exact ⟨(x9_7 ++ t439), (x16_7), (x17_7), (wrap64 (x18_7 + 1)), gA, gA, gA, gA, H', ⟨oK⟩, ⟨rA HO_0.out⟩, ⟨bA⟩⟩
                replace H := nD H;obtain ⟨c74, c74b0, c74b1, H⟩ := H;try have c74b2 : (9223372036854775807 < x9_7.size + x17_7.size) = False := eq_false (Nat.not_lt.2 c74)
                obtain ⟨rfl, rfl⟩ := qP H;go_wp2;go_ret2;exact ⟨eA, bA⟩
 obtain ⟨rfl, rfl⟩ := qP H;go_enter Tryz.func65, Tryz.ntmps65;go_wp2_with (first | (go_at_call 95; (with_reducible refine mB_ (r09_Many.calls k _ _ l0 t407 t408 t409 _ ?side1 ?side2 A2.out) ?_); (case side1 => exact cA HR0.out); (case side2 => exact HC0.out); clear HB; intro w75 hb HB; clear hb))
 go_ret2;exact ⟨eA, bA⟩
end Go.Proofs.YtejdflndgnpkcaaGreat.P
end
