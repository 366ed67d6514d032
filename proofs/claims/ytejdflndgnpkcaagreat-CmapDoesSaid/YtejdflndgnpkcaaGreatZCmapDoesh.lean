/- Words, contracts and plain facts of the proof. Each says its own condition. -/
import Derived.Test.YtejdflndgnpkcaaGreatZCmapDoese
import Derived.Test.YtejdflndgnpkcaaGreatZCmapDoesg
import Derived.Lib.Hide
import Derived.Laws.CopyOwn
import Derived.Deep.RegionLaw
set_option linter.unusedVariables false
set_option linter.unusedSimpArgs false
set_option maxHeartbeats 16000000
namespace Go.Proofs.YtejdflndgnpkcaaGreat.P
open Go.RowKit PW PL PM
set_option maxRecDepth 100000
attribute [local go_sem] max2_int min2_int max_two min_two max_three min_three max_four min_four
def repN (l : List Int) : Nat → List Int
 | 0 => []
 | k + 1 => l ++ repN l k
theorem repN_length (l : List Int) : ∀ k, (repN l k).length = l.length * k
 | 0 => by simp [repN]
 | k + 1 => by rw [repN, List.length_append, repN_length l k, Nat.mul_succ, Nat.add_comm]
theorem repN_add (l : List Int) : ∀ a b, repN l (a + b) = repN l a ++ repN l b
 | 0, b => by simp [repN]
 | a + 1, b => by rw [Nat.add_right_comm, repN, repN, repN_add l a b, List.append_assoc]
theorem repN_more (l : List Int) (k q n m : Nat) (hn : n = l.length * q) (hq : q ≤ k) (hm : n + m ≤ l.length * k) : (repN l k).take n ++ (repN l k).take m = (repN l k).take (n + m) := by
 obtain ⟨d, rfl⟩ := Nat.exists_eq_add_of_le hq;have e1 : repN l (q + d) = repN l q ++ repN l d := repN_add l q d;have e2 : repN l (q + d) = repN l d ++ repN l q := by rw [Nat.add_comm]; exact repN_add l d q
 have hl : (repN l q).length = n := by rw [repN_length, hn]
 have hd : m ≤ (repN l d).length := by rw [repN_length]; rw [Nat.mul_add] at hm; omega
 rw [show (repN l (q + d)).take m = (repN l d).take m by rw [e2, List.take_append_of_le_length hd], e1];have t1 : (repN l q ++ repN l d).take n = repN l q := by rw [← hl]; simp
 have t2 : (repN l q ++ repN l d).take (n + m) = repN l q ++ (repN l d).take m := by rw [← hl, List.take_append, Nat.add_sub_cancel_left, List.take_of_length_le (Nat.le_add_right _ _)]
 rw [t1, t2]
theorem splice_take {α : Type} (L : List α) (n : Nat) (cs : List α) (h : n + cs.length ≤ L.length) : (splice L n cs).take (n + cs.length) = L.take n ++ cs := by
 unfold splice;have h1 : (L.take n).length = n := by simp; omega
 rw [← List.append_assoc, List.take_append_of_le_length (by simp; omega)];exact List.take_of_length_le (by simp; omega)
theorem mul_small (a b : Int) (ha : 0 ≤ a) (ha2 : a < 4294967296) (hb : 0 ≤ b) (hb2 : b < 4294967296) : bits_Mul.f a b = some (0, a * b) := by
 have hm : ∀ x : Int, 0 ≤ x → x < 18446744073709551616 → Go.bits .and .u64 x 4294967295 = x % 4294967296 := fun x h0 h1 =>
  bits_mask .u64 64 (by decide) (fun n h0 h1 => by rw [IntKind.wrap_u64]; omega) 32 (by decide) x h0 (by omega)
 have hw : ∀ x : Int, 0 ≤ x → x < 18446744073709551616 → IntKind.u64.wrap x = x := fun x h0 h1 => by rw [IntKind.wrap_u64]; omega
 have a0 : a / 4294967296 = 0 := by omega
 have b0 : b / 4294967296 = 0 := by omega
 have ab0 : 0 ≤ a * b := Int.mul_nonneg ha hb
 have ab1 : a * b < 18446744073709551616 := by
  have h1 : a * b ≤ 4294967295 * b := Int.mul_le_mul_of_nonneg_right (by omega) hb;omega
 have h0 : IntKind.u64.wrap 0 = 0 := hw 0 (by decide) (by decide);unfold bits_Mul.f bits_Mul64.f;simp only [Option.bind_some];rw [hm a ha (by omega), hm b hb (by omega), a0, b0, show a % 4294967296 = a by omega, show b % 4294967296 = b by omega];simp only [Int.zero_mul, Int.mul_zero, h0, Int.zero_add];rw [hw (a * b) ab0 ab1];generalize a * b = p at *
 rw [hw (p / 4294967296) (by omega) (by omega), hm (p / 4294967296) (by omega) (by omega)];have : p / 4294967296 % 4294967296 = p / 4294967296 := by omega
 rw [this, Int.add_zero, hw (p / 4294967296) (by omega) (by omega)];have : p / 4294967296 / 4294967296 = 0 := by omega
 rw [this, h0];simp [h0]
theorem repInfo : (Tryz.prog.info? 3).map (fun i => (i.zero, i.size, i.bytes)) = some (some (.int .i64 0), 1, 8) := by kernel_rfl
theorem own_cells {w : World} {base : Nat} {e : TypeId} {g n cap : Nat} {xs : List Value} (h : w.ownsRow base e 1 (.slice (some ⟨g, 0, none⟩) n cap) n xs) : ∃ cur : Array Value, w.heap[g]? = some (.cells cur e (0, 0)) ∧ cur.size = cap := by
 rcases h.2 with ⟨h', _⟩ | ⟨g', cap', cur, h', _, hg, _, _, hcs, _⟩
 · simp at h'
 simp only [Value.slice.injEq, Option.some.injEq, Addr.mk.injEq, and_true, true_and] at h';obtain ⟨rfl, rfl⟩ := h';exact ⟨cur, hg, by omega⟩
theorem less_by {N n m : Nat} (h : 0 < m) (hN : n + m ≤ N) : N - (intOf (Value.int .i64 ((n + m : Nat) : Int))).toNat < N - (intOf (Value.int .i64 (n : Int))).toNat := by
 have e1 : (intOf (Value.int .i64 ((n + m : Nat) : Int))).toNat = n + m := Int.toNat_natCast _;have e2 : (intOf (Value.int .i64 (n : Int))).toNat = n := Int.toNat_natCast _;rw [e1, e2]; omega
theorem repeat_walk (A0 : Option Addr) (c0 : Nat) (l : List Int) (k : Nat) (w : World) (hr0 : Kd.C (Kd.int .i64) w A0 l.length l) (hc0 : l.length ≤ c0) (hl : l.length < 4294967296) (hk : k < 4294967296) (hlk : l.length * k ≤ 17592186044416) :
  Calls Tryz.prog 21 #[.slice A0 l.length c0, .int .i64 (k : Int)] w fun e w' => ∃ v, e = .returned v ∧ Kd.R (Kd.int .i64) 3 w' w.heap.size (fun _ => True) v (repN l k) ∧ Below w.heap.size w w' := by
 obtain ⟨i0, hi, hz0, hz1, hz2⟩ := info_parts repInfo;have HR0 := hI hr0;obtain ⟨N, hN⟩ : ∃ N, N = l.length * k := ⟨_, rfl⟩;rw [← hN] at hlk;have HN := hI hN;have HLK := hI hlk;have k1 : ((k : Int) < 0) = False := eq_false (by omega);have k2 : decide ((k : Int) < 0) = false := decide_eq_false (by omega);have HL := hI hl;have HK := hI hk;have u1 : IntKind.u64.wrap (l.length : Int) = (l.length : Int) := by rw [IntKind.wrap_u64]; omega
 have u2 : IntKind.u64.wrap (k : Int) = (k : Int) := by rw [IntKind.wrap_u64]; omega
 have u3 : wrap64 (N : Int) = (N : Int) := by unfold wrap64; omega
 have k3 : decide ((9223372036854775807 : Int) < (N : Int)) = false := decide_eq_false (by omega);have hmul : bits_Mul.f (l.length : Int) (k : Int) = some (0, (N : Int)) := by rw [mul_small _ _ (by omega) (by omega) (by omega) (by omega), hN, Int.natCast_mul]
 have HM := hI hmul;clear hr0 hlk hl hk hmul hN;go_enter Tryz.func21, Tryz.ntmps21;go_wp2_with fail
 refine (bits_Mul.calls (l.length : Int) (k : Int) 0 (N : Int) _ HM.out).mono ?_;rintro e w1 ⟨rfl, ⟨nd, rfl⟩⟩;go_wp2_with (at_make; refine wpList_make_full _ rfl _ _ 35 rfl w.heap.size 3 i0 _ 1 Tryz.underlying35 hi hz0 hz1 _ _ _ _ N rfl rfl u3 u3 (by rw [hz2]; have := HLK.out; omega) (by have := HLK.out; unfold maxLen; omega) (by simp [go_sem]) ?_)
 intro w2 hown hgr;have hb2 : Below w.heap.size w w2 := (pw_below_drewN (Below.refl _ _) nd).grown hgr (by simp [go_sem]) (by simp);obtain ⟨cur, hcur, hsz⟩ := own_cells hown;obtain ⟨R, hR⟩ : ∃ R, R = repN l k := ⟨_, rfl⟩;have hRl : R.length = N := by rw [hR, repN_length, HN.out]
 obtain ⟨m0, hm0⟩ : ∃ m0, m0 = min l.length N := ⟨_, rfl⟩;have hm0N : m0 ≤ N := by omega
 have hm0l : m0 ≤ l.length := by omega
 obtain ⟨cs, hcs⟩ : ∃ cs, cs = (R.take m0).map (Value.int .i64) := ⟨_, rfl⟩;have hcl : cs.length = m0 := by rw [hcs, List.length_map, List.length_take]; omega
 have hRtake : 0 < m0 → R.take m0 = l := fun h => by
  have : 0 < k := by
   rcases Nat.eq_zero_or_pos k with h0 | h0
   · have := HN.out; rw [h0, Nat.mul_zero] at this; omega
   exact h0
  obtain ⟨k', rfl⟩ : ∃ k', k = k' + 1 := ⟨k - 1, by omega⟩;have hle : l.length ≤ N := by rw [HN.out]; exact Nat.le_mul_of_pos_right _ (by omega)
  have : m0 = l.length := by omega
  rw [this, hR, repN]; simp
 have hpos : 0 < cs.length → ∃ ad, A0 = some ad ∧ ∀ (j : Nat) (v : Value), cs[j]? = some v → w2.cell? (ad.add j) = some v := fun h => by
  rw [hcl] at h;have hRl := hRtake h;have C1 := Kd.C_below HR0.out hb2;obtain ⟨ad, e, _⟩ := Kd.at_int C1 0 (by omega) (by omega);refine ⟨ad, e, fun j v hj => ?_⟩;rw [hcs, hRl, List.getElem?_map] at hj
  have hjl : j < l.length := by
   rcases Nat.lt_or_ge j l.length with h | h
   · exact h
   rw [List.getElem?_eq_none h] at hj; simp at hj
  rw [List.getElem?_eq_getElem hjl] at hj;obtain ⟨ad2, e2, hc⟩ := Kd.at_int C1 (j : Int) (by omega) (by omega);rw [e] at e2;cases e2
  rw [Int.toNat_natCast] at hc;rw [hc, ← hj];unfold rd;simp [List.getD_eq_getElem?_getD, List.getElem?_eq_getElem hjl]
 have hdv : ∃ q, m0 = l.length * q ∧ q ≤ k := by
  by_cases h0 : 0 < k
  ·
   have hle : l.length ≤ N := by rw [HN.out]; exact Nat.le_mul_of_pos_right _ h0
   exact ⟨1, by rw [Nat.mul_one]; omega, h0⟩
  have : k = 0 := by omega
  subst this;exact ⟨0, by rw [hm0, HN.out]; simp, Nat.le_refl _⟩
 have hn0 : m0 < N → 0 < m0 := fun h => by
  rcases Nat.eq_zero_or_pos m0 with h0 | h0
  ·
   have : l.length = 0 := by omega
   have := HN.out;rw [‹l.length = 0›, Nat.zero_mul] at this;omega
  exact h0
 have HPOS := hI hpos;have HCL := hI hcl;have HCS := hI hcs;have HM0 := hI hm0;have HDV := hI hdv;have HN0 := hI hn0;have HCUR := hI hcur;have HSZ := hI hsz;have HRR := hI hR;have HRL := hI hRl;have HB2 := hI hb2;clear hpos hcl hcs hm0 hdv hn0 hRtake hown hgr hcur hsz hR hRl hb2;go_wp2_with (refine wpList_copy_splice (P := Tryz.prog) (o := ⟨some 33, _, _, _, _, _⟩) rfl (.tmp 31) (.tmp 32) 35 35 rfl 3 Tryz.underlying35 (by kernel_rfl) (some ⟨w.heap.size, 0, none⟩) A0 N N l.length c0 rfl rfl w.heap.size 0 cur.toList 3 (by simpa using HCUR.out) cs (by rw [HCL.out, HM0.out]) (fun h => ⟨rfl, HPOS.out h⟩) (by rw [HCL.out]; have := HSZ.out; simp; omega) (fun v hv => by rw [HCS.out] at hv; obtain ⟨x, _, rfl⟩ := List.mem_map.1 hv; rfl) w.heap.size w HB2.out (Nat.le_refl _) ?_)
 intro w3 HG3 hB3;have HB3 := hI hB3;clear hB3;rw [HCL.out];have HSL := hI (show (splice cur.toList 0 cs).length = N by rw [length_splice _ _ _ (by have := HSZ.out; have := HCL.out; simp; omega)]; have := HSZ.out; simpa using this)
 have HST := hI (show (splice cur.toList 0 cs).take m0 = (R.take m0).map (Value.int .i64) by
  have := splice_take cur.toList 0 cs (by have := HSZ.out; have := HCL.out; simp; omega);rw [Nat.zero_add, HCL.out] at this;rw [this, HCS.out]; rfl)
 obtain ⟨cu0, hcu0⟩ : ∃ cu0, cu0 = splice cur.toList 0 cs := ⟨_, rfl⟩;rw [← hcu0] at HSL HST HG3;clear hcu0;go_wp2_with fail
 go_loopw [8] (fun v8 wr => ∃ (n q : Nat) (cu : List Value), n ≤ N ∧ v8 = .int .i64 (n : Int) ∧ Aside0 (n = l.length * q ∧ q ≤ k ∧ (n < N → 0 < n)) ∧ Aside0 (wr.heap[w.heap.size]? = some (.cells cu.toArray 3 (0, 0))) ∧ Aside0 (cu.length = N) ∧ Aside0 (cu.take n = (R.take n).map (Value.int .i64)) ∧ Aside0 (Below w.heap.size w wr)) (fun v8 _ => N - (intOf v8).toNat)
 case atStart =>
  obtain ⟨q, hq, hqk⟩ := HDV.out;exact ⟨m0, q, cu0, hm0N, rfl, ⟨hq, hqk, HN0.out⟩, ⟨HG3.out⟩, ⟨HSL.out⟩, ⟨HST.out⟩, ⟨HB3.out⟩⟩
 case round =>
  obtain ⟨n, q, cu, hn, rfl, HQ, HG, HU, HT, HB⟩ := hrel;by_cases hlt : n < N
  ·
   have d1 : decide ((n : Int) < (N : Int)) = true := decide_eq_true (by omega);have q1 : (n : Int) < (N : Int) := by omega
   obtain ⟨m, hm⟩ : ∃ m, m = min n (N - n) := ⟨_, rfl⟩;have hmn : m ≤ n := by omega
   have hmN : n + m ≤ N := by omega
   have hm1 : 0 < m := by have := HQ.out.2.2 hlt; omega
   obtain ⟨ds, hds⟩ : ∃ ds, ds = (R.take m).map (Value.int .i64) := ⟨_, rfl⟩;have hdl : ds.length = m := by rw [hds, List.length_map, List.length_take, HRL.out]; omega
   have hsrc : ∀ (j : Nat) (v : Value), ds[j]? = some v → wr.cell? ((⟨w.heap.size, 0, none⟩ : Addr).add j) = some v := fun j v hj => by
    have hjm : j < m := by
     rcases Nat.lt_or_ge j m with h | h
     · exact h
     rw [List.getElem?_eq_none (by omega)] at hj; simp at hj
    have e1 : (⟨w.heap.size, 0, none⟩ : Addr).add j = ⟨w.heap.size, j, none⟩ := by rcases j with _ | j <;> simp [Addr.add]
    rw [e1, cell_of_row wr w.heap.size j cu.toArray 3 (0, 0) HG.out];have h2 : cu[j]? = (cu.take n)[j]? := by rw [List.getElem?_take, if_pos (by omega)]
    have h3 : ds[j]? = ((R.take n).map (Value.int .i64))[j]? := by
     rw [hds, List.getElem?_map, List.getElem?_map, List.getElem?_take, if_pos hjm, List.getElem?_take, if_pos (by omega)]
    have : cu.toArray[j]? = cu[j]? := by simp
    rw [this, h2, HT.out, ← h3, hj]
   have HSRC := hI hsrc;have HDL := hI hdl;have HDS := hI hds;have HMM := hI hm;clear hsrc hdl hds hm;go_wp2_with fail
   refine bg_ 10 (fun _ => True) trivial (fun _ => ?_);have HB1 := hI (below_drew1 HB.out);have HG1 := hI (show wr.drew.heap[w.heap.size]? = some (.cells cu.toArray 3 (0, 0)) from HG.out);have HSRC1 := hI (show ∀ (j : Nat) (v : Value), ds[j]? = some v → wr.drew.cell? ((⟨w.heap.size, 0, none⟩ : Addr).add j) = some v from HSRC.out);generalize wr.drew = wd at HB1 HG1 HSRC1 ⊢
   clear HSRC;refine pS_ 0 38 ?_;refine pS_ 1 39 ?_;refine pS_ 2 40 ?_;refine pS_ 4 42 ?_;refine pS_ 5 43 ?_;refine pure_ (i := 3) (N := some 41) (v := .slice (some ⟨w.heap.size, n, none⟩) (N - n) (N - n)) (a' := ?_) #[true, true, true, true, true, true, false, false, false, false] rfl rfl (by kernel_rfl) (fun _ _ _ h => h) (Or.inl ⟨by rfl, ?_⟩) ?_ ?_
   ·
    intro w';have hk1 : (n : Int) ≤ (N : Int) := by omega
    go_simp
    omega
   rotate_left
   ·
    simp only [Act.put, List.setIfInBounds_toArray, List.set_cons_zero, List.set_cons_succ, i64_w, i32_w];rfl
   refine pure_ (i := 6) (N := some 44) (v := .slice (some ⟨w.heap.size, 0, none⟩) n N) (a' := ?_) #[true, true, true, true, true, true, true, false, false, false] rfl rfl (by kernel_rfl) (fun _ _ _ h => h) (Or.inl ⟨by rfl, ?_⟩) ?_ ?_
   ·
    intro w';have hk1 : (n : Int) ≤ (N : Int) := by omega
    go_simp
   rotate_left
   ·
    simp only [Act.put, List.setIfInBounds_toArray, List.set_cons_zero, List.set_cons_succ, i64_w, i32_w];rfl
   refine oS_ 7 45 (fun K hK => ?_);refine step_copy_splice (P := Tryz.prog) rfl (.tmp 41) (.tmp 44) 35 35 rfl 3 Tryz.underlying35 (by kernel_rfl) (some ⟨w.heap.size, n, none⟩) (some ⟨w.heap.size, 0, none⟩) (N - n) (N - n) n N rfl rfl w.heap.size n cu 3 (by simpa using HG1.out) ds (by rw [HDL.out, HMM.out]) (fun _ => ⟨rfl, _, rfl, HSRC1.out⟩) (by rw [HDL.out, HU.out]; exact hmN) (fun v hv => by rw [HDS.out] at hv; obtain ⟨x, _, rfl⟩ := List.mem_map.1 hv; rfl) w.heap.size w HB1.out (Nat.le_refl _) ?_;intro w5 HG5 hB5;have HB5 := hI hB5;clear hB5;refine hK.out _ _ trivial (fun _ => ?_);clear hK K;rw [HDL.out];refine norm_ (a' := ?_) ?_ ?_;rotate_left
   ·
    show Act.put _ (some 45) _ = _
    simp only [Act.put, goInt, List.setIfInBounds_toArray, List.set_cons_zero, List.set_cons_succ, i64_w, i32_w];rfl
   refine pS_ 8 46 ?_;refine pS_ 9 8 ?_;refine dS_ ?_
   have HRN := hI (show (splice cu n ds).take (n + m) = (R.take (n + m)).map (Value.int .i64) by
    have h1 := splice_take cu n ds (by rw [HDL.out, HU.out]; exact hmN);rw [HDL.out] at h1
    obtain ⟨q, hq, hqk, _⟩ : ∃ q, n = l.length * q ∧ q ≤ k ∧ True := by
     obtain ⟨a, b, _⟩ := HQ.out;exact ⟨_, a, b, trivial⟩
    rw [h1, HT.out, HDS.out, ← List.map_append, HRR.out, repN_more l k q n m hq hqk (by have := HN.out; omega)])
   have HUN := hI (show (splice cu n ds).length = N by rw [length_splice _ _ _ (by rw [HDL.out, HU.out]; exact hmN)]; exact HU.out)
   have HQN := hI (show ∃ q, n + m = l.length * q ∧ q ≤ k ∧ (n + m < N → 0 < n + m) by
    obtain ⟨hq, hqk, _⟩ := HQ.out;have hm := HMM.out;have hNk := HN.out;by_cases hc : n ≤ N - n
    ·
     refine ⟨q + q, by rw [Nat.mul_add]; omega, ?_, by omega⟩
     have hl0 : 0 < l.length := by
      rcases Nat.eq_zero_or_pos l.length with h | h
      · rw [h, Nat.zero_mul] at hNk; omega
      exact h
     exact Nat.le_of_mul_le_mul_left (by rw [Nat.mul_add]; omega) hl0
    exact ⟨k, by omega, Nat.le_refl _, by omega⟩)
   obtain ⟨q2, hq2⟩ := HQN.out;have HQ2 := hI hq2;have hwn : wrap64 ((n : Int) + (m : Int)) = ((n + m : Nat) : Int) := by have := HLK.out; unfold wrap64; omega
   obtain ⟨cn, hcn⟩ : ∃ cn, cn = splice cu n ds := ⟨_, rfl⟩;rw [← hcn] at HRN HUN HG5;clear hq2 hcn;rw [hwn];go_wp2;go_roundw
   case rel => exact ⟨n + m, q2, cn, hmN, rfl, ⟨HQ2.out⟩, ⟨HG5.out⟩, ⟨HUN.out⟩, ⟨HRN.out⟩, ⟨HB5.out⟩⟩
   case measure => exact less_by hm1 hmN
  have hnN : n = N := by omega
  subst hnN;have d1 : decide ((n : Int) < (n : Int)) = false := decide_eq_false (by omega);go_wp2;go_ret;refine ⟨_, rfl, Kd.R_of_own ?_ (fun _ _ => trivial), HB.out⟩;have hl := HRL.out;have ht := HT.out;rw [← HRR.out, hl];refine ⟨by rw [encs_length]; omega, .inr ⟨w.heap.size, n, cu.toArray, rfl, Nat.le_refl _, HG.out, Nat.le_refl _, by have := HLK.out; unfold maxLen; omega, by simpa using HU.out, ?_⟩⟩;rw [Nat.mul_one];simp only;rw [ht, List.take_of_length_le (by omega)];rfl
def slices_Repeat.f (l0 : List Int) (a1 : Int) : Option (List Int) := if 0 ≤ a1 ∧ a1 < 4294967296 ∧ l0.length < 4294967296 ∧ l0.length * a1.toNat ≤ 17592186044416 then some (repN l0 a1.toNat) else none
theorem slices_Repeat.calls (A0 : Option Addr) (c0 : Nat) (l0 : List Int) (a1 : Int) (r1 : List Int) (w : World) (hr0 : Kd.C (Kd.int .i64) w A0 l0.length l0) (hc0 : l0.length ≤ c0) (h : slices_Repeat.f l0 a1 = some r1) :
  Calls Tryz.prog 21 #[.slice A0 l0.length c0, .int .i64 a1] w fun e w' => ∃ v0_ : Value, e = .returned v0_ ∧ Kd.R (Kd.int .i64) 3 w' w.heap.size (fun _ => True) v0_ r1 ∧ Below w.heap.size w w' := by
 unfold slices_Repeat.f at h;split at h
 ·
  rename_i hh
  obtain ⟨h1, h2, h3, h4⟩ := hh;have hr := Option.some.inj h;subst hr;obtain ⟨k, rfl⟩ := Int.eq_ofNat_of_zero_le h1;exact repeat_walk A0 c0 l0 k w hr0 hc0 h3 (by omega) h4
 exact absurd h (by simp)
def slices_Repeat_int_int.f (l0 : List Int) (a1 : Int) : Option (List Int) := slices_Repeat.f l0 a1
theorem slices_Repeat_int_int.calls (A0 : Option Addr) (c0 : Nat) (l0 : List Int) (a1 : Int) (r1 : List Int) (w : World) (hr0 : Kd.C (Kd.int .i64) w A0 l0.length l0) (hc0 : l0.length ≤ c0) (h : slices_Repeat_int_int.f l0 a1 = some r1) :
  Calls Tryz.prog 21 #[.slice A0 l0.length c0, .int .i64 a1] w fun e w' => ∃ v0_ : Value, e = .returned v0_ ∧ Kd.R (Kd.int .i64) 3 w' w.heap.size (fun _ => True) v0_ r1 ∧ Below w.heap.size w w' := slices_Repeat.calls A0 c0 l0 a1 r1 w hr0 hc0 h
end Go.Proofs.YtejdflndgnpkcaaGreat.P
