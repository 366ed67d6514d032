/- Words, contracts and plain facts of the proof. Each says its own condition. -/
import Derived.Test.YtejdflndgnpkcaaGreatZCmapDoesk
import Derived.Test.YtejdflndgnpkcaaGreatZCmapDoesi
import Derived.Test.YtejdflndgnpkcaaGreatZCmapDoese
set_option linter.unusedVariables false
set_option maxRecDepth 100000
set_option linter.unusedSimpArgs false
set_option maxHeartbeats 16000000
section
namespace Go.Proofs.YtejdflndgnpkcaaGreat.P
open Go.RowKit PW PL PM
def fstAt (x : S61) : Int := if x.f2 = 0 then wrap64 (x.f0 + x.f3) else x.f0
def hasN (x : S61) : Bool := decide (glyAt x (fstAt x) > 0) && decide (fstAt x ≤ x.f1)
theorem first_some (x : S61) : chart_span_first.f x.f0 x.f1 x.f2 x.f3 = some (fstAt x, hasN x) := by
 unfold chart_span_first.f hasN fstAt;by_cases h : x.f2 = 0
 ·
  rw [if_pos h, if_pos h];show (some (glyAt x (wrap64 (x.f0 + x.f3)))).bind _ = _
  rw [Option.bind_some];by_cases h2 : glyAt x (wrap64 (x.f0 + x.f3)) > 0
  · rw [if_pos h2, decide_eq_true h2, Bool.true_and]
  rw [if_neg h2, decide_eq_false h2, Bool.false_and]
 rw [if_neg h, if_neg h];show (some (glyAt x x.f0)).bind _ = _
 rw [Option.bind_some];by_cases h2 : glyAt x x.f0 > 0
 · rw [if_pos h2, decide_eq_true h2, Bool.true_and]
 rw [if_neg h2, decide_eq_false h2, Bool.false_and]
theorem ends1_some (x : S61) : chart_ends_1.f x.f0 x.f1 x.f2 x.f3 = some (hasN x) := by
 unfold chart_ends_1.f;rw [first_some];rfl
def lastN (a : Int) : List S61 → Int
 | [] => a
 | x :: r => lastN (if hasN x = true then x.f1 else a) r
def endsN : List S61 → Int × Int × Bool
 | [] => (0, 0, false)
 | x :: r => if hasN x = true then (fstAt x, lastN (fstAt x) (x :: r), true) else endsN r
theorem idx_bound (p : S61 → Bool) : ∀ (l : List S61) (i : Nat), idxN p l i = -1 ∨ ∃ j, i ≤ j ∧ j < i + l.length ∧ idxN p l i = (j : Int)
 | [], i => .inl rfl
 | x :: l, i => by
  cases h : p x with
  | true => exact .inr ⟨i, Nat.le_refl _, by simp, idx_no p x l i h⟩
  | false =>
   rw [idx_yes p x l i h];rcases idx_bound p l (i + 1) with h | ⟨j, h1, h2, h3⟩
   · exact .inl h
   exact .inr ⟨j, by omega, by simp; omega, h3⟩
theorem ends_none : ∀ (l : List S61) (i : Nat), idxN hasN l i = -1 → endsN l = (0, 0, false)
 | [], i, _ => rfl
 | x :: l, i, h => by
  cases hx : hasN x with
  | true => rw [idx_no hasN x l i hx] at h; omega
  | false =>
   rw [idx_yes hasN x l i hx] at h;unfold endsN;rw [hx, if_neg Bool.false_ne_true];exact ends_none l (i + 1) h
theorem ends_some : ∀ (l : List S61) (i j : Nat), idxN hasN l i = ((i + j : Nat) : Int) → j < l.length → endsN l = (fstAt (atS l j), lastN (fstAt (atS l j)) (l.drop j), true)
 | [], i, j, _, hj => absurd hj (by simp)
 | x :: l, i, j, h, hj => by
  cases hx : hasN x with
  | true =>
   rw [idx_no hasN x l i hx] at h;have : j = 0 := by omega
   subst this;unfold endsN;rw [hx, if_pos rfl];rfl
  | false =>
   rw [idx_yes hasN x l i hx] at h;cases j with
   | zero =>
    rcases idx_bound hasN l (i + 1) with h' | ⟨k, h1, h2, h3⟩
    · rw [h'] at h; omega
    rw [h3] at h; omega
   | succ j =>
    have := ends_some l (i + 1) j (by rw [h]; congr 1; omega) (by simpa using hj);unfold endsN;rw [hx, if_neg Bool.false_ne_true, this];rfl
theorem last_step (a : Int) (x : S61) (r : List S61) : lastN a (x :: r) = lastN (if hasN x = true then x.f1 else a) r := rfl
theorem enters_ends1 : EntersK 106 := entersK_of Tryz.func106 (by kernel_rfl) (by kernel_rfl)
theorem ends_index (A0 : Option Addr) (c0 : Nat) (l : List S61) (w : World) (hr0 : Kd.C k61 w A0 l.length l) :
  Calls Tryz.prog 108 #[.slice A0 l.length c0, .func (.func 106) #[] #[]] w fun e w' => e = .returned (.int .i64 (idxN hasN l 0)) ∧ Below w.heap.size w w' :=
 index_calls 106 #[] hasN A0 c0 l w hr0 (fun x W _ => chart_ends_1.calls x.f0 x.f1 x.f2 x.f3 (hasN x) W (ends1_some x)) enters_ends1
theorem ends_walk (A0 : Option Addr) (c0 : Nat) (l : List S61) (w : World) (hr0 : Kd.C k61 w A0 l.length l) (hc0 : l.length ≤ c0) (r : Int × Int × Bool) (hr : endsN l = r) :
  Calls Tryz.prog 78 #[.slice A0 l.length c0] w fun e w' => e = .returned (.tuple #[.int .i64 r.1, .int .i64 r.2.1, .bool r.2.2]) ∧ Below w.heap.size w w' := by
 have H := hI (ends_index A0 c0 l w hr0);have hmax := Kd.C_max hr0;rcases idx_bound hasN l 0 with h | ⟨i, _, hi, h⟩
 ·
  rw [h] at H;have HRE := hI (hr.symm.trans (ends_none l 0 h));clear h hr hr0 hc0 hmax;go_enter Tryz.func78, Tryz.ntmps78;go_wp2_with fail
  refine H.out.mono ?_;rintro e w1 ⟨rfl, hb⟩;have HB := hI hb;clear hb H;go_wp2;go_ret3
  rw [HRE.out];exact ⟨rfl, HB.out⟩
 rw [Nat.zero_add] at hi;rw [h] at H;have HRE := hI (hr.symm.trans (ends_some l 0 i (by rw [h]; simp) hi));have p0 : (0 : Int) ≤ (i : Int) := by omega
 have p1 : (i : Int) < (l.length : Int) := by omega
 have d0 : decide ((i : Int) < 0) = false := decide_eq_false (by omega);have p2 : (i : Int) ≤ (l.length : Int) := by omega
 have p3 : (l.length : Int) ≤ (c0 : Int) := by omega
 have p4 : i ≤ l.length := by omega
 have hci : (c0 = i) = False := eq_false (by omega);obtain ⟨ad, rfl, x0, x1, x2, x3⟩ := at_T61 hr0 (i : Int) p0 p1;rw [rd_atS] at x0 x1 x2 x3;obtain ⟨x, hx⟩ : ∃ x, x = atS l i := ⟨_, rfl⟩;rw [← hx] at x0 x1 x2 x3 HRE;rw [Int.toNat_natCast] at x0 x1 x2 x3;have HR0 := hI hr0;have HM := hI hmax;have HI := hI hi;clear h hr hr0 hx hmax hi;replace p0 := eq_true p0;replace p1 := eq_true p1;go_enter Tryz.func78, Tryz.ntmps78;go_wp2_with fail
 refine H.out.mono ?_;rintro e w1 ⟨rfl, hb⟩;have HB := hI hb;replace x0 := kM hb x0;replace x1 := kM hb x1;replace x2 := kM hb x2;replace x3 := kM hb x3;clear hb H;go_wp2_with fail
 refine (chart_span_first.calls x.f0 x.f1 x.f2 x.f3 (fstAt x) (hasN x) _ (first_some x)).mono ?_;rintro e w2 ⟨rfl, hb⟩;have HB2 := hI (HB.out.trans (hb.mono HB.out.size));obtain ⟨y, hy⟩ : ∃ y, y = fstAt x := ⟨_, rfl⟩;obtain ⟨z, hz⟩ : ∃ z, z = hasN x := ⟨_, rfl⟩;rw [← hy] at HRE ⊢;rw [← hz];clear hb hy hz x0 x1 x2 x3;go_wp2_with fail
 go_loopw [9, 30] (fun v9 v30 wr => ∃ (b : Int) (t : Nat), t ≤ l.length - i ∧ v9 = .int .i64 b ∧ v30 = .int .i64 (t : Int) ∧ Aside0 (Below w.heap.size w wr) ∧ Aside0 (lastN b (l.drop (i + t)) = lastN y (l.drop i))) (fun _ v30 _ => (l.length - i) - (intOf v30).toNat)
 case atStart => exact ⟨y, 0, Nat.zero_le _, rfl, rfl, ⟨HB2.out⟩, ⟨rfl⟩⟩
 case round =>
  obtain ⟨b, t, ht, rfl, rfl, HB, HT⟩ := hrel;by_cases hlt : t < l.length - i
  ·
   have hit : i + t < l.length := by omega
   have q0 : (0 : Int) ≤ (t : Int) := by omega
   have q1 : (t : Int) < ((l.length - i : Nat) : Int) := by omega
   have d1 : decide ((t : Int) < ((l.length - i : Nat) : Int)) = true := decide_eq_true q1;have hwi : wrap64 ((t : Int) + 1) = ((t + 1 : Nat) : Int) := by have := HM.out; unfold wrap64; omega
   obtain ⟨_, e, x0, x1, x2, x3⟩ := at_T61 HR0.out ((i + t : Nat) : Int) (by omega) (by omega);cases e
   rw [rd_atS] at x0 x1 x2 x3;obtain ⟨x, hx⟩ : ∃ x, x = atS l (i + t) := ⟨_, rfl⟩;have ea : (ad.add (i * 4)).add (t * 4) = ad.add ((i + t) * 4) := by rw [add_add]; congr 1; omega
   rw [← hx] at x0 x1 x2 x3;rw [Int.toNat_natCast, ← ea] at x0 x1 x2 x3;replace x0 := kM HB.out x0;replace x1 := kM HB.out x1;replace x2 := kM HB.out x2;replace x3 := kM HB.out x3
   have hst : lastN b (l.drop (i + t)) = lastN (if hasN x = true then x.f1 else b) (l.drop (i + (t + 1))) := by
    rw [List.drop_eq_getElem_cons hit, last_step, hx, atS_get l (i + t) hit]; rfl
   have HST := hI (hst.symm.trans HT.out);have HLT := hI hlt;clear hx ea hst hlt hit;replace q0 := eq_true q0;replace q1 := eq_true q1;have hz2 := (zero_of_info (P := Tryz.prog) (t := 61) (v := .agg #[.int .i64 0, .int .i64 0, .int .i64 0, .int .i64 0]) (n := 4) (by kernel_rfl)).1;go_wp2_with fail
   obtain ⟨wx, hwx⟩ : ∃ wx, wx = wr.alloc (.cells #[.int .i64 x.f0, .int .i64 x.f1, .int .i64 x.f2, .int .i64 x.f3] 61) := ⟨_, rfl⟩;have hbx : Below wr.heap.size wr wx := by rw [hwx]; exact (Below.refl _ _).alloc (Nat.le_refl _) _
   have c1 : wx.cell? ⟨wr.heap.size, 1, none⟩ = some (.int .i64 x.f1) := by rw [hwx]; simp [go_sem]
   rw [← hwx];clear hwx x0 x1 x2 x3;refine (chart_ends_1.calls x.f0 x.f1 x.f2 x.f3 (hasN x) _ (ends1_some x)).mono ?_;rintro e w4 ⟨rfl, hb⟩;have HB3 := hI (HB.out.trans ((hbx.trans (hb.mono hbx.size)).mono HB.out.size));replace c1 := kM hb c1;clear hb hbx;cases hq : hasN x with
   | true =>
    rw [hq, if_pos rfl] at HST;clear hq;go_wp2;go_roundw
    case rel => exact ⟨_, t + 1, HLT.out, rfl, by rw [hwi], ⟨HB3.out⟩, ⟨HST.out⟩⟩
    case measure => rw [hwi]; exact less_step (by decide) HLT.out
   | false =>
    rw [hq, if_neg Bool.false_ne_true] at HST;clear hq;go_wp2;go_roundw
    case rel => exact ⟨_, t + 1, HLT.out, rfl, by rw [hwi], ⟨HB3.out⟩, ⟨HST.out⟩⟩
    case measure => rw [hwi]; exact less_step (by decide) HLT.out
  have d1 : decide ((t : Int) < ((l.length - i : Nat) : Int)) = false := decide_eq_false (by omega)
  have hres : b = lastN y (l.drop i) := by
   rw [← HT.out, List.drop_eq_nil_of_le (by omega)]; rfl
  rw [← hres] at HRE;have d2 : decide (t < l.length - i) = false := decide_eq_false hlt;clear hres hlt;go_wp2_with fail
  go_ways
  go_ret3
  rw [HRE.out];exact ⟨rfl, HB.out⟩
def chart_ends.f (l0 : List S61) : Option (Int × Int × Bool) := some (endsN l0)
theorem chart_ends.calls (A0 : Option Addr) (c0 : Nat) (l0 : List S61) (r1 : Int) (r2 : Int) (r3 : Bool) (w : World) (hr0 : Kd.C k61 w A0 l0.length l0) (hc0 : l0.length ≤ c0) (h : chart_ends.f l0 = some (r1, r2, r3)) :
  Calls Tryz.prog 78 #[.slice A0 l0.length c0] w fun e w' => e = .returned (.tuple #[.int .i64 r1, .int .i64 r2, .bool r3]) ∧ Below w.heap.size w w' :=
 ends_walk A0 c0 l0 w hr0 hc0 (r1, r2, r3) (Option.some.inj h)
theorem right_iff (x : S61) : rightN x = true ↔ (0 ≤ x.f0 ∧ x.f0 ≤ x.f1 ∧ x.f1 ≤ 1114111 ∧ (x.f3 = 0 ∨ x.f3 = 1) ∧ 0 ≤ x.f2 ∧ x.f2 ≤ 65535 ∧ x.f2 + x.f3 * (x.f1 - x.f0) ≤ 65535) := by
 unfold rightN;simp only [Bool.and_eq_true, Bool.or_eq_true, decide_eq_true_eq, beq_iff_eq]
theorem gly_in {x : S61} (hx : rightN x = true) {c : Int} (h0 : x.f0 ≤ c) (h1 : c ≤ x.f1 + 1) : glyAt x c = x.f2 + x.f3 * (c - x.f0) := by
 obtain ⟨a0, a1, a2, a3, a4, a5, a6⟩ := (right_iff x).1 hx;unfold glyAt;have e1 : wrap64 (c - x.f0) = c - x.f0 := by unfold wrap64; omega
 rw [e1];rcases a3 with h | h
 · rw [h, Int.zero_mul]; unfold wrap64; omega
 rw [h, Int.one_mul]; unfold wrap64; omega
theorem gly_bd {x : S61} (hx : rightN x = true) {c : Int} (h0 : x.f0 ≤ c) (h1 : c ≤ x.f1) : 0 ≤ x.f2 + x.f3 * (c - x.f0) ∧ x.f2 + x.f3 * (c - x.f0) ≤ 65535 := by
 obtain ⟨a0, a1, a2, a3, a4, a5, a6⟩ := (right_iff x).1 hx;rcases a3 with h | h
 · rw [h, Int.zero_mul]; omega
 rw [h, Int.one_mul] at a6 ⊢; omega
theorem fst_val {x : S61} (hx : rightN x = true) : fstAt x = if x.f2 = 0 then x.f0 + x.f3 else x.f0 := by
 obtain ⟨a0, a1, a2, a3, a4, a5, a6⟩ := (right_iff x).1 hx;unfold fstAt;by_cases h : x.f2 = 0
 · rw [if_pos h, if_pos h]; unfold wrap64; omega
 rw [if_neg h, if_neg h]
theorem has_iff {x : S61} (hx : rightN x = true) : hasN x = true ↔ (0 < x.f2 ∨ x.f3 = 1 ∧ x.f0 < x.f1) := by
 obtain ⟨a0, a1, a2, a3, a4, a5, a6⟩ := (right_iff x).1 hx;unfold hasN;rw [fst_val hx];simp only [Bool.and_eq_true, decide_eq_true_eq];by_cases h : x.f2 = 0
 ·
  rw [if_pos h, gly_in hx (by omega) (by omega)];rcases a3 with h3 | h3
  · rw [h3, Int.zero_mul]; omega
  rw [h3, Int.one_mul]; omega
 rw [if_neg h, gly_in hx (by omega) (by omega)];rw [show x.f0 - x.f0 = 0 by omega, Int.mul_zero];omega
theorem fst_in {x : S61} (hx : rightN x = true) (hh : hasN x = true) : 0 ≤ fstAt x ∧ x.f0 ≤ fstAt x ∧ fstAt x ≤ x.f1 := by
 obtain ⟨a0, a1, a2, a3, a4, a5, a6⟩ := (right_iff x).1 hx;have h2 := (has_iff hx).1 hh;rw [fst_val hx];by_cases h : x.f2 = 0
 · rw [if_pos h]; omega
 rw [if_neg h]; omega
theorem ord_cons {x : S61} {l : List S61} (h : ordN (x :: l) = true) : ordN l = true := by
 cases l with
 | nil => rfl
 | cons y r => rw [ord_step, Bool.and_eq_true] at h; exact h.2
theorem ord_head : ∀ {x : S61} {l : List S61}, (∀ y ∈ l, rightN y = true) → ordN (x :: l) = true → ∀ y ∈ l, x.f1 < y.f0
 | x, [], _, _, y, hy => by simp at hy
 | x, z :: r, hr, h, y, hy => by
  rw [ord_step, Bool.and_eq_true] at h;have h1 := of_decide_eq_true h.1;rcases List.mem_cons.1 hy with e | hm
  · rw [e]; exact h1
  have h2 := ord_head (fun q hq => hr q (List.mem_cons_of_mem _ hq)) h.2 y hm;obtain ⟨_, a1, _⟩ := (right_iff z).1 (hr z List.mem_cons_self);omega
theorem isL_all {l : List S61} (h : isL l = true) : l.length ≤ 65536 ∧ (∀ x ∈ l, rightN x = true) ∧ ordN l = true := by
 unfold isL at h;simp only [Bool.and_eq_true, decide_eq_true_eq, List.all_eq_true] at h;exact ⟨h.1, h.2.1, h.2.2⟩
theorem isL_mk {l : List S61} (h1 : l.length ≤ 65536) (h2 : ∀ x ∈ l, rightN x = true) (h3 : ordN l = true) : isL l = true := by
 unfold isL;simp only [Bool.and_eq_true, decide_eq_true_eq, List.all_eq_true];exact ⟨h1, h2, h3⟩
theorem ord_at_lt {l : List S61} (hr : ∀ y ∈ l, rightN y = true) (ho : ordN l = true) : ∀ {i j : Nat} (hij : i < j) (hj : j < l.length), (l[i]'(by omega)).f1 < l[j].f0 := by
 induction l with
 | nil => intro i j _ hj; exact absurd hj (by simp)
 | cons x r ih =>
  intro i j hij hj;obtain ⟨j, rfl⟩ : ∃ m, j = m + 1 := ⟨j - 1, by omega⟩;have hj' : j < r.length := by simpa using hj
  cases i with
  | zero => exact ord_head (fun q hq => hr q (List.mem_cons_of_mem _ hq)) ho _ (List.getElem_mem hj')
  | succ i => exact ih (fun q hq => hr q (List.mem_cons_of_mem _ hq)) (ord_cons ho) (by omega) hj'
theorem last_in : ∀ (l : List S61) (a : Int), (∀ y ∈ l, rightN y = true) → (∀ y ∈ l, a ≤ y.f1) → ordN l = true → a ≤ lastN a l ∧ (lastN a l = a ∨ ∃ y ∈ l, hasN y = true ∧ lastN a l = y.f1)
 | [], a, _, _, _ => ⟨Int.le_refl _, .inl rfl⟩
 | x :: r, a, hr, ha, ho => by
  rw [last_step];have hr' := fun q hq => hr q (List.mem_cons_of_mem _ hq)
  have hx := ha x List.mem_cons_self;obtain ⟨_, x1, _⟩ := (right_iff x).1 (hr x List.mem_cons_self);have hh := ord_head hr' ho
  have hc : ∀ y ∈ r, x.f1 ≤ y.f1 := fun y hy => by
   have := hh y hy;obtain ⟨_, a1, _⟩ := (right_iff y).1 (hr' y hy);omega
  cases hq : hasN x with
  | true =>
   rw [if_pos rfl];obtain ⟨h1, h2⟩ := last_in r x.f1 hr' hc (ord_cons ho);refine ⟨by omega, ?_⟩;rcases h2 with h2 | ⟨y, hy, h3, h4⟩
   · exact .inr ⟨x, List.mem_cons_self, hq, h2⟩
   exact .inr ⟨y, List.mem_cons_of_mem _ hy, h3, h4⟩
  | false =>
   rw [if_neg Bool.false_ne_true];obtain ⟨h1, h2⟩ := last_in r a hr' (fun y hy => ha y (List.mem_cons_of_mem _ hy)) (ord_cons ho);refine ⟨h1, ?_⟩;rcases h2 with h2 | ⟨y, hy, h3, h4⟩
   · exact .inl h2
   exact .inr ⟨y, List.mem_cons_of_mem _ hy, h3, h4⟩
theorem ends_in : ∀ (l : List S61), (∀ y ∈ l, rightN y = true) → ordN l = true → (endsN l = (0, 0, false) ∧ ∀ y ∈ l, hasN y = false) ∨ ∃ a b : Int, endsN l = (a, b, true) ∧ 0 ≤ a ∧ a ≤ b ∧ b ≤ 1114111
 | [], _, _ => .inl ⟨rfl, fun y hy => by simp at hy⟩
 | x :: r, hr, ho => by
  have hr' := fun q hq => hr q (List.mem_cons_of_mem _ hq)
  have hx := hr x List.mem_cons_self;have hh := ord_head hr' ho;unfold endsN;cases hq : hasN x with
  | true =>
   rw [if_pos rfl];obtain ⟨f0, f1, f2⟩ := fst_in hx hq;obtain ⟨_, x1, x2, _⟩ := (right_iff x).1 hx
   have hc : ∀ y ∈ x :: r, fstAt x ≤ y.f1 := fun y hy => by
    rcases List.mem_cons.1 hy with e | hm
    · rw [e]; omega
    have := hh y hm;obtain ⟨_, a1, _⟩ := (right_iff y).1 (hr' y hm);omega
   obtain ⟨h1, h2⟩ := last_in (x :: r) (fstAt x) hr hc ho;refine .inr ⟨_, _, rfl, f0, h1, ?_⟩;rcases h2 with h2 | ⟨y, hy, h3, h4⟩
   · omega
   rw [h4];obtain ⟨_, _, y2, _⟩ := (right_iff y).1 (hr y hy);exact y2
  | false =>
   rw [if_neg Bool.false_ne_true];rcases ends_in r hr' (ord_cons ho) with ⟨h1, h2⟩ | h
   ·
    refine .inl ⟨h1, fun y hy => ?_⟩;rcases List.mem_cons.1 hy with e | hm
    · rw [e]; exact hq
    exact h2 y hm
   exact .inr h
def linN : List S61 → Int → Int
 | [], _ => 0
 | x :: r, c => if x.f0 ≤ c ∧ c ≤ x.f1 then x.f2 + x.f3 * (c - x.f0) else linN r c
theorem lin_bd : ∀ (l : List S61) (c : Int), (∀ y ∈ l, rightN y = true) → 0 ≤ linN l c ∧ linN l c ≤ 65535
 | [], c, _ => ⟨Int.le_refl _, by unfold linN; decide⟩
 | x :: r, c, hr => by
  unfold linN;by_cases h : x.f0 ≤ c ∧ c ≤ x.f1
  · rw [if_pos h]; exact gly_bd (hr x List.mem_cons_self) h.1 h.2
  rw [if_neg h]; exact lin_bd r c (fun q hq => hr q (List.mem_cons_of_mem _ hq))
theorem lin_none : ∀ (l : List S61) (c : Int), (∀ y ∈ l, ¬ (y.f0 ≤ c ∧ c ≤ y.f1)) → linN l c = 0
 | [], c, _ => rfl
 | x :: r, c, h => by
  unfold linN;rw [if_neg (h x List.mem_cons_self)];exact lin_none r c (fun q hq => h q (List.mem_cons_of_mem _ hq))
theorem lin_skip : ∀ (a b : List S61) (c : Int), (∀ y ∈ a, ¬ (y.f0 ≤ c ∧ c ≤ y.f1)) → linN (a ++ b) c = linN b c
 | [], b, c, _ => rfl
 | x :: r, b, c, h => by
  rw [List.cons_append];conv => lhs; unfold linN
  rw [if_neg (h x List.mem_cons_self)];exact lin_skip r b c (fun q hq => h q (List.mem_cons_of_mem _ hq))
theorem place_spec {l : List S61} (hr : ∀ y ∈ l, rightN y = true) (ho : ordN l = true) (c : Int) : ∀ (d i j : Nat), j - i ≤ d → i ≤ j → j ≤ l.length → (∀ k (hk : k < l.length), k < i → l[k].f1 < c) → (∀ k (hk : k < l.length), j ≤ k → ¬ l[k].f1 < c) →
  srch l c d i j ≤ l.length ∧ (∀ k (hk : k < l.length), k < srch l c d i j → l[k].f1 < c) ∧ (∀ k (hk : k < l.length), srch l c d i j ≤ k → ¬ l[k].f1 < c)
 | 0, i, j, hd, hij, hj, h1, h2 => by
  have : i = j := by omega
  subst this;exact ⟨hj, h1, h2⟩
 | d + 1, i, j, hd, hij, hj, h1, h2 => by
  by_cases hlt : i < j
  ·
   rw [srch_step, if_pos hlt];obtain ⟨h, hh⟩ : ∃ h, h = (i + j) / 2 := ⟨_, rfl⟩;rw [← hh];have hhl : h < l.length := by omega
   rw [atS_get l h hhl]
   have hmono : ∀ k (hk : k < l.length), k < h → l[k].f1 < l[h].f1 := fun k hk hkh => by
    have := ord_at_lt hr ho hkh hhl;obtain ⟨_, a1, _⟩ := (right_iff l[h]).1 (hr _ (List.getElem_mem hhl));omega
   have hmono2 : ∀ k (hk : k < l.length), h < k → l[h].f1 < l[k].f1 := fun k hk hkh => by
    have := ord_at_lt hr ho hkh hk;obtain ⟨_, a1, _⟩ := (right_iff l[k]).1 (hr _ (List.getElem_mem hk));omega
   by_cases hc : l[h].f1 < c
   ·
    rw [if_pos hc];refine place_spec hr ho c d (h + 1) j (by omega) (by omega) hj (fun k hk hkh => ?_) h2;rcases Nat.lt_or_ge k h with h3 | h3
    · have := hmono k hk h3; omega
    have : k = h := by omega
    subst this; exact hc
   rw [if_neg hc];refine place_spec hr ho c d i h (by omega) (by omega) (by omega) h1 (fun k hk hkh => ?_);rcases Nat.lt_or_ge h k with h3 | h3
   · have := hmono2 k hk h3; omega
   have : k = h := by omega
   subst this; exact hc
  have : i = j := by omega
  subst this;rw [srch_done l c (d + 1) i i (by omega)];exact ⟨hj, h1, h2⟩
theorem look_lin {l : List S61} (hr : ∀ y ∈ l, rightN y = true) (ho : ordN l = true) (c : Int) : lookN l c = linN l c := by
 obtain ⟨p0, p1, p2⟩ := place_spec hr ho c l.length 0 l.length (by omega) (by omega) (Nat.le_refl _) (fun k _ h => by omega) (fun k hk h => by omega);obtain ⟨p, hp⟩ : ∃ p, p = placeN l c := ⟨_, rfl⟩;have hp' : srch l c l.length 0 l.length = p := hp.symm;rw [hp'] at p0 p1 p2;unfold lookN;rw [← hp];have hsplit : l = l.take p ++ l.drop p := (List.take_append_drop p l).symm
 have hpre : ∀ y ∈ l.take p, ¬ (y.f0 ≤ c ∧ c ≤ y.f1) := fun y hy => by
  obtain ⟨k, hk, rfl⟩ := List.getElem_of_mem hy;have hkl : k < l.length := by rw [List.length_take] at hk; omega
  have hkp : k < p := by rw [List.length_take] at hk; omega
  rw [List.getElem_take];have := p1 k hkl hkp;omega
 have hl : linN l c = linN (l.drop p) c := by conv => lhs; rw [hsplit]; rw [lin_skip _ _ c hpre]
 rw [hl];by_cases hpl : p < l.length
 ·
  rw [List.drop_eq_getElem_cons hpl];unfold isAt;rw [decide_eq_true hpl, Bool.true_and, atS_get l p hpl];have h2 := p2 p hpl (Nat.le_refl _);have hx := hr _ (List.getElem_mem hpl);unfold cmpN linN;rw [if_neg h2];by_cases h0 : l[p].f0 > c
  ·
   rw [if_pos h0, if_neg (by decide), if_neg (by omega)];symm
   refine lin_none _ c (fun y hy => ?_);obtain ⟨k, hk, rfl⟩ := List.getElem_of_mem hy;have hk' : p + 1 + k < l.length := by rw [List.length_drop] at hk; omega
   rw [List.getElem_drop];have := ord_at_lt hr ho (show p < p + 1 + k by omega) hk';obtain ⟨_, a1, _⟩ := (right_iff l[p]).1 hx;omega
  rw [if_neg h0, if_pos (by decide), if_pos (by omega)];exact gly_in hx (by omega) (by omega)
 unfold isAt;rw [decide_eq_false hpl, Bool.false_and, if_neg Bool.false_ne_true, List.drop_eq_nil_of_le (by omega)];rfl
theorem look_bd {l : List S61} (h : isL l = true) (c : Int) : 0 ≤ lookN l c ∧ lookN l c ≤ 65535 := by
 obtain ⟨_, hr, ho⟩ := isL_all h;rw [look_lin hr ho c];exact lin_bd l c hr
end Go.Proofs.YtejdflndgnpkcaaGreat.P
end
