/- The contract of fixed.MulDiv: it answers as the plain function below says, whatever the arguments; its closure, the thrown errors and the deferred recover are walked. No condition. -/
import Derived.Test.YtjmgfhphkkiekaaP0
import Derived.Test.YtjmgfhphkkiekaaPFFixedIs
import Derived.Recover
import Derived.Defers
import Derived.WalkKit
import Derived.WalkLawsBesides
import Derived.Lib.Hide
namespace Go.Proofs.Ytjmgfhphkkiekaa.P
open Go.RowKit Go.Proofs.YtjmgfhphkkiekaaW.PrintWords Go.Proofs.YtjmgfhphkkiekaaW.PrintLast Go.Proofs.YtjmgfhphkkiekaaW.PrintMore

attribute [local go_sem] max2_int min2_int max_two min_two max_three min_three max_four min_four

/-! ### The plain side -/
def isLen (a : Int) : Bool := decide (-1073741823 ≤ a ∧ a ≤ 1073741823)
def areLen (l : List Int) : Bool := l.all isLen

theorem fixed_Is.l0_eq (l : List Int) (hl : l.length ≤ 9223372036854775806) (d : Nat) : ∀ (k i : Nat), l.length - i = d → i ≤ l.length → d < k →
    fixed_Is.l0 k l (l.length : Int) (i : Int) = some (areLen (l.drop i)) := by
  induction d with
  | zero =>
    intro k i hd hi hk
    obtain ⟨k, rfl⟩ : ∃ m, k = m + 1 := ⟨k - 1, by omega⟩
    have : i = l.length := by omega
    subst this
    simp only [fixed_Is.l0]
    rw [if_neg (by omega)]
    simp [areLen]
  | succ d ih =>
    intro k i hd hi hk
    obtain ⟨k, rfl⟩ : ∃ m, k = m + 1 := ⟨k - 1, by omega⟩
    have hlt : i < l.length := by omega
    simp only [fixed_Is.l0]
    rw [if_pos (by omega), if_pos (by omega), if_pos (by omega)]
    have hr : rd l (i : Int) = l[i] := by unfold rd; simp [List.getD_eq_getElem?_getD, List.getElem?_eq_getElem hlt]
    have hw : wrap64 ((i : Int) + 1) = ((i + 1 : Nat) : Int) := by unfold wrap64; omega
    have hdr : l.drop i = l[i] :: l.drop (i + 1) := List.drop_eq_getElem_cons hlt
    rw [hr, hw, hdr]
    simp only [areLen, List.all_cons]
    by_cases h1 : l[i] < -1073741823
    · rw [if_pos h1]; simp [isLen]; omega
    · rw [if_neg h1]
      by_cases h2 : l[i] > 1073741823
      · rw [if_pos h2]; simp [isLen]; omega
      · rw [if_neg h2]
        have := ih k (i + 1) (by omega) (by omega) (by omega)
        rw [this]
        have h3 : isLen l[i] = true := by unfold isLen; exact decide_eq_true (by omega)
        rw [h3]; simp [areLen]
theorem fixed_Is.f_eq (l : List Int) (hl : l.length ≤ 9223372036854775806) : fixed_Is.f (l.length + 1) l = some (areLen l) := by
  have := fixed_Is.l0_eq l hl l.length (l.length + 1) 0 (by omega) (by omega) (by omega)
  simpa [fixed_Is.f] using this

theorem need_ok (c : Int) (A : Option Addr) (cc : Nat) (l : List Int) (w : World) (hr : Kd.C (Kd.int .i64) w A l.length l) (hc : l.length ≤ cc) (hl : l.length ≤ 9223372036854775806) (h : areLen l = true) :
    Calls Try.prog 35 #[.int .i64 c, .slice A l.length cc] w fun e w' => e = .returned (.tuple #[]) ∧ Drawn0 w w' := by
  have hf := fixed_Is.f_eq l hl
  rw [h] at hf
  go_enter Try.func35, Try.ntmps35
  go_wp2_with fail
  refine (fixed_Is.calls _ A cc l true _ hr hc hf).mono ?_
  rintro e w' ⟨rfl, hd⟩
  go_wp2
  go_end0
  exact ⟨rfl, hd⟩

theorem need_bad (c : Int) (A : Option Addr) (cc : Nat) (l : List Int) (w : World) (hr : Kd.C (Kd.int .i64) w A l.length l) (hc : l.length ≤ cc) (hl : l.length ≤ 9223372036854775806) (h : areLen l = false) :
    Calls Try.prog 35 #[.int .i64 c, .slice A l.length cc] w fun e w' => e = .panicked [{ v := .iface 28 (.int .i64 c), recovered := false }] ∧ Drawn0 w w' := by
  have hf := fixed_Is.f_eq l hl
  rw [h] at hf
  go_enter Try.func35, Try.ntmps35
  go_wp2_with fail
  refine (fixed_Is.calls _ A cc l false _ hr hc hf).mono ?_
  rintro e w' ⟨rfl, hd⟩
  go_wp2
  exact ⟨rfl, rfl, hd⟩
theorem need_ok_at (c : Int) (A : Option Addr) (m cc : Nat) (l : List Int) (w : World) (hm : l.length = m) (hr : Kd.C (Kd.int .i64) w A m l) (hc : m ≤ cc) (hl : m ≤ 9223372036854775806) (h : areLen l = true) :
    Calls Try.prog 35 #[.int .i64 c, .slice A m cc] w fun e w' => e = .returned (.tuple #[]) ∧ Drawn0 w w' := by
  subst hm; exact need_ok c A cc l w hr hc hl h
theorem need_bad_at (c : Int) (A : Option Addr) (m cc : Nat) (l : List Int) (w : World) (hm : l.length = m) (hr : Kd.C (Kd.int .i64) w A m l) (hc : m ≤ cc) (hl : m ≤ 9223372036854775806) (h : areLen l = false) :
    Calls Try.prog 35 #[.int .i64 c, .slice A m cc] w fun e w' => e = .panicked [{ v := .iface 28 (.int .i64 c), recovered := false }] ∧ Drawn0 w w' := by
  subst hm; exact need_bad c A cc l w hr hc hl h

theorem C_new (W : World) (e : TypeId) (l : List Int) (hl : l.length ≤ 9223372036854775806) : Kd.C (Kd.int .i64) (W.alloc (.cells (l.map (Value.int .i64)).toArray e)) (some ⟨W.heap.size, 0, none⟩) l.length l := by
  refine Kd.C_of_reads (d := (0 : Int)) (h1 := fun _ => rfl) ⟨rfl, by omega, fun _ => ⟨_, rfl, fun j hj => ?_⟩⟩
  have ha : (⟨W.heap.size, 0, none⟩ : Addr).add j = ⟨W.heap.size, j, none⟩ := add_plain _ _
  rw [ha, World.cell?_alloc_new]
  simp [List.getElem?_eq_getElem hj, List.getD_eq_getElem?_getD]

/-! ### caught: its deferred closure, and itself over whatever closure -/
theorem catch_panicking (p q : Addr) (hpq : p.block ≠ q.block) (x y c : Int) (older : List PanicEntry) (w : World) (hp : w.cell? p = some (.int .i64 x)) (hpz : w.frozen? p = false) (hq : w.cell? q = some (.int .i64 y)) (hqz : w.frozen? q = false) :
    CallsD Try.prog 40 #[.pointer (some p), .pointer (some q)] (.panicking ({ v := .iface 28 (.int .i64 c), recovered := false } :: older)) w fun e u' w' =>
      e = .returned (.tuple #[]) ∧ u' = .panicking ({ v := .iface 28 (.int .i64 c), recovered := true } :: older) ∧ ∃ n, w' = (((w.setCell p (.int .i64 0)).setCell q (.int .i64 c))).drewN n := by
  refine callsD_of_wpS Try.func40 rfl fun c₀ cs hu => ?_
  apply wpS_seq
  apply wpS_region
  simp [wpOpsS, go_sem, recoverD, hu, Try.ntmps40, Exit.thenS]
  apply wpS_seq
  apply wpS_region
  simp [wpOpsS, go_sem, Exit.thenS]
  refine wpS_cond (t := true) (by simp [Act.eval, Array.replicate]) ?_
  simp only [if_true]
  have hta : ∀ (v : Value) (W : World), (Instr.typeAssert (.iface 28 v) 20 28 false).run Try.prog W = .ok v W := fun v W => by rfl
  refine wpS_of_wp (Code.wp_mono (Q := fun e a' w' => e = .normal ∧ a'.defers = [] ∧ w' = (((w.setCell p (.int .i64 0)).setCell q (.int .i64 c))).drewN 1) ?_ ?_)
  · rintro e a' w' ⟨rfl, hd, hw⟩
    cases c₀
    simp_all [bodyPostS, results, Try.results40]
    exact ⟨_, rfl⟩
  · have hq' : (w.setCell p (.int .i64 0)).cell? q = some (.int .i64 y) := by rw [World.cell?_setCell_other _ _ _ _ (fun h => hpq (congrArg Addr.block h))]; exact hq
    have hp' : (w.setCell q (.int .i64 c)).cell? p = some (.int .i64 x) := by rw [World.cell?_setCell_other _ _ _ _ (fun h => hpq (congrArg Addr.block h).symm)]; exact hp
    simp only [Array.replicate_succ, Array.replicate_zero, List.push_toArray, List.append_toArray, List.nil_append, List.cons_append, List.setIfInBounds_toArray, List.set_cons_succ, List.set_cons_zero]
    go_region
    exact ⟨rfl, rfl, rfl⟩

theorem catch_idle (p q : Addr) (w : World) :
    CallsD Try.prog 40 #[.pointer (some p), .pointer (some q)] .returning w fun e u' w' => e = .returned (.tuple #[]) ∧ u' = .returning ∧ w' = w := by
  refine callsD_of_wpS Try.func40 rfl fun c₀ cs hu => ?_
  apply wpS_seq
  apply wpS_region
  simp [wpOpsS, go_sem, recoverD, hu, Try.ntmps40, Exit.thenS]
  apply wpS_seq
  apply wpS_region
  simp [wpOpsS, go_sem, Exit.thenS]
  refine wpS_cond (t := false) (by simp [Act.eval, Array.replicate]) ?_
  simp only [Bool.false_eq_true, if_false]
  refine wpS_of_wp (wp_skip ?_)
  cases c₀
  simp_all [bodyPostS, results, Try.results40]
theorem results_caught (tmps : Array Value) (p q : Addr) (a b : Int) (w : World) (h2 : tmps[2]?.getD undef = .pointer (some p)) (h3 : tmps[3]?.getD undef = .pointer (some q))
    (hp : w.cell? p = some (.int .i64 a)) (hq : w.cell? q = some (.int .i64 b)) : (results Try.f33 tmps).run Try.prog w = .ok (.tuple #[.int .i64 a, .int .i64 b]) w := by
  simp [results, Try.results33, go_sem, h2, h3, hp, hq]

/-- The two variables of caught, in a world. -/
structure Two (w W : World) (a b : Int) : Prop where
  c1 : W.cell? ⟨w.heap.size, 0, none⟩ = some (.int .i64 a)
  z1 : W.frozen? ⟨w.heap.size, 0, none⟩ = false
  c2 : W.cell? ⟨w.heap.size + 1, 0, none⟩ = some (.int .i64 b)
  z2 : W.frozen? ⟨w.heap.size + 1, 0, none⟩ = false
  hs : w.heap.size + 2 ≤ W.heap.size
  hB : Below w.heap.size w W
theorem Two.start (w : World) : Two w ((w.alloc (Obj.cells #[Value.int IntKind.i64 0] 3)).alloc (Obj.cells #[Value.int IntKind.i64 0] 28)) 0 0 :=
  ⟨by simp [go_sem], by simp [go_sem], by simp [go_sem], by simp [go_sem], by simp, ((Below.refl _ _).alloc (Nat.le_refl _) _).alloc (by simp) _⟩
theorem Two.below {w W W' : World} {a b : Int} (h : Two w W a b) (hb : Below W.heap.size W W') : Two w W' a b := by
  have := h.hs
  exact ⟨by rw [hb.cell (by simp; omega)]; exact h.c1, by rw [hb.frozen (by simp; omega)]; exact h.z1, by rw [hb.cell (by simp; omega)]; exact h.c2, by rw [hb.frozen (by simp; omega)]; exact h.z2, by have := hb.size; omega, h.hB.trans (hb.mono (by omega))⟩
theorem Two.alloc {w W : World} {a b : Int} (h : Two w W a b) (o : Obj) : Two w (W.alloc o) a b := h.below ((Below.refl _ _).alloc (Nat.le_refl _) _)
theorem Two.set1 {w W : World} {a b : Int} (h : Two w W a b) (c : Int) : Two w (W.setCell ⟨w.heap.size, 0, none⟩ (.int .i64 c)) c b :=
  ⟨World.cell?_setCell_same _ _ _ h.c1, by rw [World.frozen?_setCell]; exact h.z1, by rw [World.cell?_setCell_other _ _ _ _ (by simp)]; exact h.c2, by rw [World.frozen?_setCell]; exact h.z2, by have := h.hs; simpa using this, h.hB.setCell (Nat.le_refl _) _⟩
theorem Two.set2 {w W : World} {a b : Int} (h : Two w W a b) (c : Int) : Two w (W.setCell ⟨w.heap.size + 1, 0, none⟩ (.int .i64 c)) a c :=
  ⟨by rw [World.cell?_setCell_other _ _ _ _ (by simp)]; exact h.c1, by rw [World.frozen?_setCell]; exact h.z1, World.cell?_setCell_same _ _ _ h.c2, by rw [World.frozen?_setCell]; exact h.z2, by have := h.hs; simpa using this, h.hB.setCell (by simp) _⟩
theorem Two.drewN {w W : World} {a b : Int} (h : Two w W a b) (n : Nat) : Two w (W.drewN n) a b := ⟨h.c1, h.z1, h.c2, h.z2, h.hs, pw_below_drewN h.hB n⟩

theorem caught_ret (K : FuncId) (cap : Array Value) (n : Int) (w : World) (hcf : ∀ W : World, (callFunc K cap).run Try.prog W = .ok (.enter K cap) W) (hn : isLen n = true)
    (hK : ∀ W, Below w.heap.size w W → Calls Try.prog K cap W fun e W' => e = .returned (.int .i64 n) ∧ Below W.heap.size W W') :
    Calls Try.prog 33 #[.func (.func K) #[] cap] w fun e w' => e = .returned (.tuple #[.int .i64 n, .int .i64 0]) ∧ Below w.heap.size w w' := by
  have hmf : ∀ (fn : Fn) (first cap : Array Value) (w : World), (Instr.makeFunc fn first cap).run Try.prog w = .ok (.func fn first cap) w := fun _ _ _ _ => rfl
  have HK := Lib.hid hK
  have HN := Lib.hid hn
  clear hK hn
  go_enter_defers Try.func33, Try.ntmps33
  go_wp2_with fail
  refine (HK.out _ (Two.start w).hB).mono ?_
  rintro e w1 ⟨rfl, hb1⟩
  have T1 := (Two.start w).below hb1
  have T1H := Lib.hid T1
  clear hb1
  obtain ⟨c1, z1, c2, z2, hs1, _⟩ := T1
  go_wp2_with fail
  have HC := Lib.hid (show Kd.C (Kd.int .i64) ((w1.setCell ⟨w.heap.size, 0, none⟩ (.int .i64 n)).alloc (Obj.cells #[.int .i64 n] 3)) (some ⟨w1.heap.size, 0, none⟩) 1 [n] by
    have := C_new (w1.setCell ⟨w.heap.size, 0, none⟩ (.int .i64 n)) 3 [n] (by simp)
    simpa [go_sem] using this)
  with_reducible refine (need_ok_at 2 _ 1 1 [n] _ rfl HC.out (Nat.le_refl _) (by omega) (by simp [areLen, HN.out])).mono ?_
  rintro e w2 ⟨rfl, hd2⟩
  have T2 := ((T1H.out.set1 n).alloc _).below hd2.below
  have T2H := Lib.hid T2
  clear c1 z1 c2 z2 hs1 HC T1H hd2
  obtain ⟨c1, z1, c2, z2, hs1, _⟩ := T2
  go_wp2
  refine leaves_cons (f := 40) (args := #[.pointer (some ⟨w.heap.size, 0, none⟩), .pointer (some ⟨w.heap.size + 1, 0, none⟩)]) (by simp) (by simp [go_sem]) ?_
  refine (catch_idle ⟨w.heap.size, 0, none⟩ ⟨w.heap.size + 1, 0, none⟩ _).mono ?_
  rintro e u' w'' ⟨rfl, rfl, rfl⟩
  have T3 := (T2H.out.set1 n).set2 0
  exact ⟨_, results_caught _ _ _ _ _ _ rfl rfl T3.c1 T3.c2, rfl, T3.hB⟩

theorem caught_over (K : FuncId) (cap : Array Value) (n : Int) (w : World) (hcf : ∀ W : World, (callFunc K cap).run Try.prog W = .ok (.enter K cap) W) (hn : isLen n = false)
    (hK : ∀ W, Below w.heap.size w W → Calls Try.prog K cap W fun e W' => e = .returned (.int .i64 n) ∧ Below W.heap.size W W') :
    Calls Try.prog 33 #[.func (.func K) #[] cap] w fun e w' => e = .returned (.tuple #[.int .i64 0, .int .i64 2]) ∧ Below w.heap.size w w' := by
  have hmf : ∀ (fn : Fn) (first cap : Array Value) (w : World), (Instr.makeFunc fn first cap).run Try.prog w = .ok (.func fn first cap) w := fun _ _ _ _ => rfl
  have HK := Lib.hid hK
  have HN := Lib.hid hn
  clear hK hn
  go_enter_defers Try.func33, Try.ntmps33
  go_wp2_with fail
  refine (HK.out _ (Two.start w).hB).mono ?_
  rintro e w1 ⟨rfl, hb1⟩
  have T1 := (Two.start w).below hb1
  have T1H := Lib.hid T1
  clear hb1
  obtain ⟨c1, z1, c2, z2, hs1, _⟩ := T1
  go_wp2_with fail
  have HC := Lib.hid (show Kd.C (Kd.int .i64) ((w1.setCell ⟨w.heap.size, 0, none⟩ (.int .i64 n)).alloc (Obj.cells #[.int .i64 n] 3)) (some ⟨w1.heap.size, 0, none⟩) 1 [n] by
    have := C_new (w1.setCell ⟨w.heap.size, 0, none⟩ (.int .i64 n)) 3 [n] (by simp)
    simpa [go_sem] using this)
  with_reducible refine (need_bad_at 2 _ 1 1 [n] _ rfl HC.out (Nat.le_refl _) (by omega) (by simp [areLen, HN.out])).mono ?_
  rintro e w2 ⟨rfl, hd2⟩
  have T2 := ((T1H.out.set1 n).alloc _).below hd2.below
  refine leaves_cons (f := 40) (args := #[.pointer (some ⟨w.heap.size, 0, none⟩), .pointer (some ⟨w.heap.size + 1, 0, none⟩)]) (by simp) (by simp [go_sem]) ?_
  refine (catch_panicking ⟨w.heap.size, 0, none⟩ ⟨w.heap.size + 1, 0, none⟩ (by simp) _ _ _ [] _ T2.c1 T2.z1 T2.c2 T2.z2).mono ?_
  rintro e u' w'' ⟨rfl, rfl, nd, rfl⟩
  have T3 := ((T2.set1 0).set2 2).drewN nd
  exact ⟨_, results_caught _ _ _ _ _ _ rfl rfl T3.c1 T3.c2, rfl, T3.hB⟩

theorem caught_thrown (K : FuncId) (cap : Array Value) (c : Int) (w : World) (hcf : ∀ W : World, (callFunc K cap).run Try.prog W = .ok (.enter K cap) W)
    (hK : ∀ W, Below w.heap.size w W → Calls Try.prog K cap W fun e W' => e = .panicked [{ v := .iface 28 (.int .i64 c), recovered := false }] ∧ Below W.heap.size W W') :
    Calls Try.prog 33 #[.func (.func K) #[] cap] w fun e w' => e = .returned (.tuple #[.int .i64 0, .int .i64 c]) ∧ Below w.heap.size w w' := by
  have hmf : ∀ (fn : Fn) (first cap : Array Value) (w : World), (Instr.makeFunc fn first cap).run Try.prog w = .ok (.func fn first cap) w := fun _ _ _ _ => rfl
  have HK := Lib.hid hK
  clear hK
  go_enter_defers Try.func33, Try.ntmps33
  go_wp2_with fail
  refine (HK.out _ (Two.start w).hB).mono ?_
  rintro e w1 ⟨rfl, hb1⟩
  have T2 := (Two.start w).below hb1
  refine leaves_cons (f := 40) (args := #[.pointer (some ⟨w.heap.size, 0, none⟩), .pointer (some ⟨w.heap.size + 1, 0, none⟩)]) (by simp) (by simp [go_sem]) ?_
  refine (catch_panicking ⟨w.heap.size, 0, none⟩ ⟨w.heap.size + 1, 0, none⟩ (by simp) _ _ _ [] _ T2.c1 T2.z1 T2.c2 T2.z2).mono ?_
  rintro e u' w'' ⟨rfl, rfl, nd, rfl⟩
  have T3 := ((T2.set1 0).set2 c).drewN nd
  exact ⟨_, results_caught _ _ _ _ _ _ rfl rfl T3.c1 T3.c2, rfl, T3.hB⟩
/-! ### MulDiv -/
theorem len_bd {a : Int} (h : isLen a = true) : -1073741823 ≤ a ∧ a ≤ 1073741823 := by unfold isLen at h; exact of_decide_eq_true h
theorem mul_bd {a b : Int} (ha : -1073741823 ≤ a ∧ a ≤ 1073741823) (hb : -1073741823 ≤ b ∧ b ≤ 1073741823) : -1152921502459363329 ≤ a * b ∧ a * b ≤ 1152921502459363329 := by
  have h1 : a.natAbs ≤ 1073741823 := by omega
  have h2 : b.natAbs ≤ 1073741823 := by omega
  have h3 : (a * b).natAbs ≤ 1152921502459363329 := by rw [Int.natAbs_mul]; exact Nat.mul_le_mul h1 h2
  omega
theorem tdiv_bd {p c : Int} : (p.tdiv c).natAbs ≤ p.natAbs := by rw [Int.natAbs_tdiv]; exact Nat.div_le_self _ _
theorem tmod_bd {p c : Int} (hc : c ≠ 0) : (p.tmod c).natAbs < c.natAbs := by rw [Int.natAbs_tmod]; exact Nat.mod_lt _ (by omega)
/-- What MulDiv's closure computes, of lengths, c not 0: out of a times b, the quotient and the rest. -/
def mdPick (p q r c : Int) : Int := if (if c < -c then -c else c) ≤ 2 * (if r < -r then -r else r) then (if decide (p < 0) = decide (c < 0) then q + 1 else q - 1) else q
def mdQ (a b c : Int) : Int := mdPick (a * b) ((a * b).tdiv c) ((a * b).tmod c) c

theorem md_up {P Q R c : Int} (h : (if c < -c then -c else c) ≤ 2 * (if R < -R then -R else R)) (h2 : (decide (P < 0) == decide (c < 0)) = true) : mdPick P Q R c = Q + 1 := by
  unfold mdPick; rw [if_pos h, if_pos (by simpa using h2)]
theorem md_down {P Q R c : Int} (h : (if c < -c then -c else c) ≤ 2 * (if R < -R then -R else R)) (h2 : (decide (P < 0) == decide (c < 0)) = false) : mdPick P Q R c = Q - 1 := by
  unfold mdPick; rw [if_pos h, if_neg (by simpa using h2)]
theorem md_flat {P Q R c : Int} (h : 2 * (if R < -R then -R else R) < (if c < -c then -c else c)) : mdPick P Q R c = Q := by
  unfold mdPick; rw [if_neg (by omega)]
theorem kwrap_id {x : Int} (h0 : -9223372036854775808 ≤ x) (h1 : x ≤ 9223372036854775807) : IntKind.i64.wrap x = x := by
  rw [IntKind.wrap_i64]; omega

set_option maxHeartbeats 400000 in
theorem md_walk (p q r : Addr) (a b c P Q R : Int) (w : World) (hp : w.cell? p = some (.int .i64 a)) (hq : w.cell? q = some (.int .i64 b)) (hr : w.cell? r = some (.int .i64 c)) (hl : areLen [a, b, c] = true) (hc : c ≠ 0)
    (hP : wrap64 (a * b) = P) (hQ : IntKind.i64.wrap (P.tdiv c) = Q) (hR : P.tmod c = R) (bc : -1073741823 ≤ c ∧ c ≤ 1073741823) (bQ : -1152921502459363329 ≤ Q ∧ Q ≤ 1152921502459363329) (bR : -1073741823 ≤ R ∧ R ≤ 1073741823) :
    Calls Try.prog 34 #[.pointer (some p), .pointer (some q), .pointer (some r)] w fun e w' => e = .returned (.int .i64 (mdPick P Q R c)) ∧ Below w.heap.size w w' := by
  have HL := Lib.hid hl
  clear hl
  have bp := World.block_lt_of_cell? w p hp
  have bq := World.block_lt_of_cell? w q hq
  have br := World.block_lt_of_cell? w r hr
  have hc0 : (c == 0) = false := beq_eq_false_iff_ne.mpr hc
  rcases Int.lt_or_le R (-R) with hs | hs <;> rcases Int.lt_or_le c (-c) with ht | ht
  all_goals
  go_enter Try.func34, Try.ntmps34
  go_wp2_with fail
  have HC := Lib.hid (show Kd.C (Kd.int .i64) (w.alloc (Obj.cells #[.int .i64 a, .int .i64 b, .int .i64 c] 3)) (some ⟨w.heap.size, 0, none⟩) 3 [a, b, c] from C_new w 3 [a, b, c] (by simp))
  with_reducible refine (need_ok_at 1 _ 3 3 [a, b, c] _ rfl HC.out (Nat.le_refl _) (by omega) HL.out).mono ?_
  rintro e w2 ⟨rfl, hd2⟩
  have hb := hd2.below
  have hB : Below w.heap.size w w2 := ((Below.refl _ _).alloc (Nat.le_refl _) _).trans (hb.mono (by simp))
  have hp2 : w2.cell? p = some (.int .i64 a) := (hB.cell bp).trans hp
  have hq2 : w2.cell? q = some (.int .i64 b) := (hB.cell bq).trans hq
  have hr2 : w2.cell? r = some (.int .i64 c) := (hB.cell br).trans hr
  clear hb hd2 HC hp hq hr
  go_wp2_with fail
  go_quiet (fail)
  go_wp2_with fail
  all_goals
    go_ret
    refine ⟨congrArg (fun z => Ending.returned (Value.int IntKind.i64 z)) ?_, by first | exact pw_below_drewN hB _ | exact below_drew hB | exact hB⟩
  · exact (md_up (by (repeat' split) <;> omega) ‹_›).symm
  · exact (md_down (by (repeat' split) <;> omega) ‹_›).symm
  · exact (md_flat (by (repeat' split) <;> omega)).symm

theorem md_ret (p q r : Addr) (a b c : Int) (w : World) (hp : w.cell? p = some (.int .i64 a)) (hq : w.cell? q = some (.int .i64 b)) (hr : w.cell? r = some (.int .i64 c)) (hl : areLen [a, b, c] = true) (hc : c ≠ 0) :
    Calls Try.prog 34 #[.pointer (some p), .pointer (some q), .pointer (some r)] w fun e w' => e = .returned (.int .i64 (mdQ a b c)) ∧ Below w.heap.size w w' := by
  have hl' := hl
  simp only [areLen, List.all_cons, List.all_nil, Bool.and_eq_true] at hl'
  have ba := len_bd hl'.1
  have bb := len_bd hl'.2.1
  have bc := len_bd hl'.2.2.1
  have bP := mul_bd ba bb
  have b1 := @tdiv_bd (a * b) c
  have b2 := @tmod_bd (a * b) c hc
  exact md_walk p q r a b c (a * b) ((a * b).tdiv c) ((a * b).tmod c) w hp hq hr hl hc (by unfold wrap64; omega) (kwrap_id (by omega) (by omega)) rfl bc (by omega) (by omega)

theorem md_bad (p q r : Addr) (a b c : Int) (w : World) (hp : w.cell? p = some (.int .i64 a)) (hq : w.cell? q = some (.int .i64 b)) (hr : w.cell? r = some (.int .i64 c)) (hl : areLen [a, b, c] = false) :
    Calls Try.prog 34 #[.pointer (some p), .pointer (some q), .pointer (some r)] w fun e w' => e = .panicked [{ v := .iface 28 (.int .i64 1), recovered := false }] ∧ Below w.heap.size w w' := by
  have HL := Lib.hid hl
  clear hl
  go_enter Try.func34, Try.ntmps34
  go_wp2_with fail
  have HC := Lib.hid (show Kd.C (Kd.int .i64) (w.alloc (Obj.cells #[.int .i64 a, .int .i64 b, .int .i64 c] 3)) (some ⟨w.heap.size, 0, none⟩) 3 [a, b, c] from C_new w 3 [a, b, c] (by simp))
  with_reducible refine (need_bad_at 1 _ 3 3 [a, b, c] _ rfl HC.out (Nat.le_refl _) (by omega) HL.out).mono ?_
  rintro e w2 ⟨rfl, hd2⟩
  exact ⟨rfl, rfl, ((Below.refl _ _).alloc (Nat.le_refl _) _).trans (hd2.below.mono (by simp))⟩

theorem md_zero (p q r : Addr) (a b : Int) (w : World) (hp : w.cell? p = some (.int .i64 a)) (hq : w.cell? q = some (.int .i64 b)) (hr : w.cell? r = some (.int .i64 0)) (hl : areLen [a, b, 0] = true) :
    Calls Try.prog 34 #[.pointer (some p), .pointer (some q), .pointer (some r)] w fun e w' => e = .panicked [{ v := .iface 28 (.int .i64 1), recovered := false }] ∧ Below w.heap.size w w' := by
  have HL := Lib.hid hl
  clear hl
  have br := World.block_lt_of_cell? w r hr
  go_enter Try.func34, Try.ntmps34
  go_wp2_with fail
  have HC := Lib.hid (show Kd.C (Kd.int .i64) (w.alloc (Obj.cells #[.int .i64 a, .int .i64 b, .int .i64 0] 3)) (some ⟨w.heap.size, 0, none⟩) 3 [a, b, 0] from C_new w 3 [a, b, 0] (by simp))
  with_reducible refine (need_ok_at 1 _ 3 3 [a, b, 0] _ rfl HC.out (Nat.le_refl _) (by omega) HL.out).mono ?_
  rintro e w2 ⟨rfl, hd2⟩
  have hb := hd2.below
  have hB : Below w.heap.size w w2 := ((Below.refl _ _).alloc (Nat.le_refl _) _).trans (hb.mono (by simp))
  have hr2 : w2.cell? r = some (.int .i64 0) := (hB.cell br).trans hr
  clear hb hd2 HC hp hq hr
  go_wp2_with fail
  exact ⟨rfl, rfl, hB⟩

/-- MulDiv, told plainly. -/
def mulDivN (a b c : Int) : Int × Int :=
  if areLen [a, b, c] = true ∧ c ≠ 0 then (if isLen (mdQ a b c) = true then (mdQ a b c, 0) else (0, 2)) else (0, 1)
def fixed_MulDiv.f (a0 : Int) (a1 : Int) (a2 : Int) : Option (Int × Int) := some (mulDivN a0 a1 a2)
theorem fixed_MulDiv.calls (a0 : Int) (a1 : Int) (a2 : Int) (r1 : Int) (r2 : Int) (w : World) (h : fixed_MulDiv.f a0 a1 a2 = some (r1, r2)) :
    Calls Try.prog 25 #[.int .i64 a0, .int .i64 a1, .int .i64 a2] w fun e w' => e = .returned (.tuple #[.int .i64 r1, .int .i64 r2]) ∧ Below w.heap.size w w' := by
  have hmf : ∀ (fn : Fn) (first cap : Array Value) (w : World), (Instr.makeFunc fn first cap).run Try.prog w = .ok (.func fn first cap) w := fun _ _ _ _ => rfl
  have hcf : ∀ (cap : Array Value) (W : World), (callFunc 34 cap).run Try.prog W = .ok (.enter 34 cap) W := fun _ _ => by kernel_rfl
  have HF := Lib.hid (Option.some.inj h)
  clear h
  have hbox := ((((Below.refl w.heap.size w).alloc (Nat.le_refl _) (.cells #[.int .i64 a0] 3)).alloc (by simp) (.cells #[.int .i64 a1] 3)).alloc (by simp; omega) (.cells #[.int .i64 a2] 3))
  have HB := Lib.hid hbox
  clear hbox
  have hcaught : Calls Try.prog 33 #[.func (.func 34) #[] #[.pointer (some ⟨w.heap.size, 0, none⟩), .pointer (some ⟨w.heap.size + 1, 0, none⟩), .pointer (some ⟨w.heap.size + 2, 0, none⟩)]]
      (((w.alloc (.cells #[.int .i64 a0] 3)).alloc (.cells #[.int .i64 a1] 3)).alloc (.cells #[.int .i64 a2] 3)) fun e w' => e = .returned (.tuple #[.int .i64 r1, .int .i64 r2]) ∧ Below (w.heap.size + 3) (((w.alloc (.cells #[.int .i64 a0] 3)).alloc (.cells #[.int .i64 a1] 3)).alloc (.cells #[.int .i64 a2] 3)) w' := by
    have key : ∀ W, Below (((w.alloc (.cells #[.int .i64 a0] 3)).alloc (.cells #[.int .i64 a1] 3)).alloc (.cells #[.int .i64 a2] 3)).heap.size (((w.alloc (.cells #[.int .i64 a0] 3)).alloc (.cells #[.int .i64 a1] 3)).alloc (.cells #[.int .i64 a2] 3)) W → W.cell? ⟨w.heap.size, 0, none⟩ = some (.int .i64 a0) ∧ W.cell? ⟨w.heap.size + 1, 0, none⟩ = some (.int .i64 a1) ∧ W.cell? ⟨w.heap.size + 2, 0, none⟩ = some (.int .i64 a2) := by
      intro W hW
      refine ⟨by rw [hW.cell (by simp; omega)]; simp [go_sem], by rw [hW.cell (by simp)]; simp [go_sem], by rw [hW.cell (by simp)]; simp [go_sem]⟩
    have HF := HF.out
    unfold mulDivN at HF
    by_cases hl : areLen [a0, a1, a2] = true
    · by_cases hc : a2 = 0
      · subst hc
        rw [if_neg (by simp)] at HF
        obtain ⟨rfl, rfl⟩ := Prod.mk.inj HF
        refine (caught_thrown _ _ 1 _ (hcf _) fun W hW => ?_).mono fun e w' h => by simpa using h
        obtain ⟨k1, k2, k3⟩ := key W hW
        exact md_zero _ _ _ a0 a1 W k1 k2 k3 hl
      · rw [if_pos ⟨hl, hc⟩] at HF
        by_cases hq : isLen (mdQ a0 a1 a2) = true
        · rw [if_pos hq] at HF
          obtain ⟨rfl, rfl⟩ := Prod.mk.inj HF
          refine (caught_ret _ _ (mdQ a0 a1 a2) _ (hcf _) hq fun W hW => ?_).mono fun e w' h => by simpa using h
          obtain ⟨k1, k2, k3⟩ := key W hW
          exact md_ret _ _ _ a0 a1 a2 W k1 k2 k3 hl hc
        · rw [if_neg hq] at HF
          obtain ⟨rfl, rfl⟩ := Prod.mk.inj HF
          refine (caught_over _ _ (mdQ a0 a1 a2) _ (hcf _) (by simpa using hq) fun W hW => ?_).mono fun e w' h => by simpa using h
          obtain ⟨k1, k2, k3⟩ := key W hW
          exact md_ret _ _ _ a0 a1 a2 W k1 k2 k3 hl hc
    · rw [if_neg (by simp [hl])] at HF
      obtain ⟨rfl, rfl⟩ := Prod.mk.inj HF
      refine (caught_thrown _ _ 1 _ (hcf _) fun W hW => ?_).mono fun e w' h => by simpa using h
      obtain ⟨k1, k2, k3⟩ := key W hW
      exact md_bad _ _ _ a0 a1 a2 W k1 k2 k3 (by simpa using hl)
  have HK := Lib.hid hcaught
  clear hcaught hcf
  go_enter Try.func25, Try.ntmps25
  go_wp2_with fail
  refine HK.out.mono ?_
  rintro e w' ⟨rfl, hb⟩
  go_wp2
  go_ret2
  exact ⟨rfl, HB.out.trans (hb.mono (by omega))⟩

end Go.Proofs.Ytjmgfhphkkiekaa.P
