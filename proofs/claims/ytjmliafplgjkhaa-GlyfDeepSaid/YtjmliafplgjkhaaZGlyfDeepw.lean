/- A part of the proof of the law GlyfDeep: the words, contracts and plain facts that it needs, no more. Each says its own condition. -/
import Derived.Test.YtjmliafplgjkhaaZGlyfDeepu
import Derived.Test.YtjmliafplgjkhaaZGlyfDeepv
import Derived.Deep.WholeRow
import Derived.Deep.RegionHeld3
import Derived.WalkMore
import Derived.Test.YtjmliafplgjkhaaZGlyfDeepi
import Derived.Test.YtjmliafplgjkhaaZGlyfDeepo
import Derived.Test.YtjmliafplgjkhaaZGlyfDeepq
import Derived.Test.YtjmliafplgjkhaaZGlyfDeepp
section
namespace Go.Proofs.Ytjmliafplgjkhaa.P
open Go.RowKit Go.Proofs.YtjmliafplgjkhaaW.PrintWords Go.Proofs.YtjmliafplgjkhaaW.PrintLast Go.Proofs.YtjmliafplgjkhaaW.PrintMore
set_option linter.unusedSimpArgs false
set_option linter.unusedVariables false
def fourN (x : S30) : List Int := [x.f1, x.f2, x.f3, x.f4]
def isN (x : S30) : Bool := if x.f0 = true then (decide ((putN [-2, -2, -2, -2] (fourN x)).2 = 0) && (decide (x.f1 ≤ x.f3) && decide (x.f2 ≤ x.f4))) else (x.f1 == 0 && (x.f2 == 0 && (x.f3 == 0 && x.f4 == 0)))
theorem is_some (x : S30) : glyf_Is.f x.f0 x.f1 x.f2 x.f3 x.f4 = some (isN x) := by
  unfold glyf_Is.f glyf_fields.f bin_Put.f isN fourN
  cases x.f0 with
  | false => rfl
  | true =>
    rw [if_pos rfl, if_pos rfl]
    simp only [Option.bind_some]
    rw [if_pos (by decide)]
    simp only [Option.bind_some]
    split
    · rename_i h
      split
      · rename_i h2
        simp [h, h2]
      · rename_i h2
        simp [h2]
    · rename_i h
      simp [h]
set_option maxHeartbeats 2000000 in
theorem pred_calls (x : S30) (w : World) :
    Calls Try.prog 22 #[.agg #[.bool x.f0, .int .i64 x.f1, .int .i64 x.f2, .int .i64 x.f3, .int .i64 x.f4]] w fun e w' => e = .returned (.bool (!isN x)) ∧ Below w.heap.size w w' := by
  have HB := Aside0.mk (Below.refl w.heap.size w)
  go_enter Try.func22, Try.ntmps22
  try go_wp2_with (first | ((with_reducible refine gate_dst (N := 1) rfl ?_); refine box_event ?hg (N := 1) ?hd (cs := #[.bool x.f0, .int .i64 x.f1, .int .i64 x.f2, .int .i64 x.f3, .int .i64 x.f4]) (t := 30) ?hr ?_; (case hd => rfl); (case hg => rfl); (case hr => first | (go_simp; done) | (go_simp; rfl)); intro gb107 hg w7 hbox hb; have n0_ := Aside0.mk (below_step (by repeat (first | (with_reducible first | exact HB.out | apply below_alloc | apply pw_below_drewN | apply below_drew1) | exact HB.out)) hb); have n1_ := Aside0.mk (hbox); have n2_ := Aside0.mk ((by rw [hg]; exact (below_size (by repeat (first | (with_reducible first | exact HB.out | apply below_alloc | apply pw_below_drewN | apply below_drew1) | exact HB.out))) : w.heap.size ≤ gb107)); clear HB; have HB := n0_; have BK107 := n1_; have GW107 := n2_; clear n0_ n1_ n2_; clear hb hbox hg; have hcz8_0 : w7.cell? ⟨gb107, 0, none⟩ = some (.bool x.f0) := (blk_cell BK107.out 0); have hcz8_1 : w7.cell? ⟨gb107, 1, none⟩ = some (.int .i64 x.f1) := (blk_cell BK107.out 1); have hcz8_2 : w7.cell? ⟨gb107, 2, none⟩ = some (.int .i64 x.f2) := (blk_cell BK107.out 2); have hcz8_3 : w7.cell? ⟨gb107, 3, none⟩ = some (.int .i64 x.f3) := (blk_cell BK107.out 3); have hcz8_4 : w7.cell? ⟨gb107, 4, none⟩ = some (.int .i64 x.f4) := (blk_cell BK107.out 4)) | fail)
  refine (glyf_Is.calls x.f0 x.f1 x.f2 x.f3 x.f4 _ _ (is_some x)).mono ?_
  rintro e w8 ⟨rfl, hb⟩
  have HB2 := Lib.hid (HB.out.trans (hb.mono HB.out.size))
  clear hb
  go_wp2
  go_ret
  exact ⟨rfl, HB2.out⟩
def idxN : List S30 → Nat → Int
  | [], _ => -1
  | x :: l, i => if isN x = true then idxN l (i + 1) else (i : Int)
theorem idx_yes (x : S30) (l : List S30) (i : Nat) (h : isN x = true) : idxN (x :: l) i = idxN l (i + 1) := by
  conv => lhs; unfold idxN
  rw [if_pos h]
theorem idx_no (x : S30) (l : List S30) (i : Nat) (h : isN x = false) : idxN (x :: l) i = (i : Int) := by
  conv => lhs; unfold idxN
  rw [if_neg (by rw [h]; exact Bool.false_ne_true)]
theorem idx_any : ∀ (l : List S30) (i : Nat), decide (0 ≤ idxN l i) = l.any (fun x => !isN x)
  | [], i => rfl
  | x :: l, i => by
    unfold idxN
    rw [List.any_cons]
    cases h : isN x with
    | true => rw [if_pos rfl, idx_any l (i + 1)]; rfl
    | false => rw [if_neg Bool.false_ne_true]; simp
set_option maxHeartbeats 2000000 in
theorem index_calls (A0 : Option Addr) (c0 : Nat) (l : List S30) (w : World) (hr0 : Kd.C k30 w A0 l.length l) (hl : l.length ≤ 65535) :
    Calls Try.prog 38 #[.slice A0 l.length c0, .func (.func 22) #[] #[]] w fun e w' => e = .returned (.int .i64 (idxN l 0)) ∧ Below w.heap.size w w' := by
  have HR0 := Lib.hid hr0
  have HL := Lib.hid hl
  clear hr0 hl
  go_enter Try.func38, Try.ntmps38
  go_wp2_with fail
  go_loopw [8] (fun v8 wr => ∃ (i : Nat), i ≤ l.length ∧ v8 = .int .i64 (i : Int) ∧ Aside0 (Below w.heap.size w wr) ∧ Aside0 (idxN (l.drop i) i = idxN l 0)) (fun v8 _ => l.length - (intOf v8).toNat)
  case atStart => exact ⟨0, by omega, rfl, ⟨Below.refl _ _⟩, ⟨rfl⟩⟩
  case round =>
    obtain ⟨i, hi, rfl, HB, HI⟩ := hrel
    by_cases hlt : i < l.length
    · have q0 : (0 : Int) ≤ (i : Int) := by omega
      have q1 : (i : Int) < (l.length : Int) := by omega
      have d1 : decide ((i : Int) < (l.length : Int)) = true := decide_eq_true q1
      have hwi : wrap64 ((i : Int) + 1) = ((i + 1 : Nat) : Int) := by have := HL.out; unfold wrap64; omega
      obtain ⟨ad, rfl, x0, x1, x2, x3, x4⟩ := at_T30 HR0.out (i : Int) q0 q1
      obtain ⟨x, hx⟩ : ∃ x, x = rd_T30 l (i : Int) := ⟨_, rfl⟩
      rw [← hx] at x0 x1 x2 x3 x4
      rw [Int.toNat_natCast] at x0 x1 x2 x3 x4
      replace x0 := (HB.out.cell (World.block_lt_of_cell? _ _ x0)).trans x0
      replace x1 := (HB.out.cell (World.block_lt_of_cell? _ _ x1)).trans x1
      replace x2 := (HB.out.cell (World.block_lt_of_cell? _ _ x2)).trans x2
      replace x3 := (HB.out.cell (World.block_lt_of_cell? _ _ x3)).trans x3
      replace x4 := (HB.out.cell (World.block_lt_of_cell? _ _ x4)).trans x4
      have hdr : l.drop i = x :: l.drop (i + 1) := by rw [List.drop_eq_getElem_cons hlt, hx]; unfold rd_T30; simp [List.getD_eq_getElem?_getD, List.getElem?_eq_getElem hlt]
      have HDR := Lib.hid hdr
      clear hdr hx
      replace q0 := eq_true q0
      replace q1 := eq_true q1
      go_wp2_with fail
      refine (pred_calls x _).mono ?_
      rintro e w1 ⟨rfl, hb⟩
      have HB2 := Lib.hid (HB.out.trans (hb.mono HB.out.size))
      clear hb
      cases hq : isN x with
      | true =>
        have HN := Lib.hid (show idxN (l.drop (i + 1)) (i + 1) = idxN l 0 by
          have := HI.out
          rw [HDR.out, idx_yes x _ i hq] at this
          exact this)
        rw [Bool.not_true]
        clear hq
        go_wp2
        go_roundw
        case rel => exact ⟨i + 1, hlt, by rw [hwi], ⟨HB2.out⟩, ⟨HN.out⟩⟩
        case measure => rw [hwi]; exact less_step (by decide) hlt
      | false =>
        have hres : idxN l 0 = (i : Int) := by
          rw [← HI.out, HDR.out, idx_no x _ i hq]
        have HRE := Lib.hid hres
        rw [Bool.not_false]
        clear hq hres
        go_wp2
        go_ret
        rw [HRE.out]
        exact ⟨rfl, HB2.out⟩
    · have hie : i = l.length := by omega
      have d1 : decide ((i : Int) < (l.length : Int)) = false := decide_eq_false (by omega)
      have hres : idxN l 0 = -1 := by rw [← HI.out, hie, List.drop_length]; rfl
      have HRE := Lib.hid hres
      clear hie hres
      go_wp2
      go_ret
      rw [HRE.out]
      exact ⟨rfl, HB.out⟩
set_option maxHeartbeats 1000000 in
theorem contains_calls (A0 : Option Addr) (c0 : Nat) (l : List S30) (w : World) (hr0 : Kd.C k30 w A0 l.length l) (hl : l.length ≤ 65535) :
    Calls Try.prog 21 #[.slice A0 l.length c0, .func (.func 22) #[] #[]] w fun e w' => e = .returned (.bool (l.any (fun x => !isN x))) ∧ Below w.heap.size w w' := by
  have H := Lib.hid (index_calls A0 c0 l w hr0 hl)
  have HI := Lib.hid (idx_any l 0)
  clear hr0 hl
  go_enter Try.func21, Try.ntmps21
  go_wp2_with fail
  refine H.out.mono ?_
  rintro e w1 ⟨rfl, hb⟩
  obtain ⟨j, hj⟩ : ∃ j, j = idxN l 0 := ⟨_, rfl⟩
  have HI2 := Lib.hid (show l.any (fun x => !isN x) = decide (0 ≤ j) by rw [hj]; exact HI.out.symm)
  rw [← hj]
  have HBB := Lib.hid hb
  clear H HI hj hb
  go_wp2
  go_ret
  rw [HI2.out]
  exact ⟨rfl, HBB.out⟩
def bytesE (x : S30) : ByteArray := (putN [-2, -2, -2, -2] (fourN x)).1
def rowE (x : S30) : List UInt8 := if x.f0 = true then 0 :: 0 :: ((bytesE x).data.toList ++ [0, 0]) else []
def byOf (far : Bool) : Nat := if far = true then 1 else 2
def atsN (d : Nat) : Nat → List S30 → List Int
  | _, [] => []
  | n, x :: l => (((n + (rowE x).length) / d : Nat) : Int) :: atsN d (n + (rowE x).length) l
def putE (l : List S30) (far : Bool) : ByteArray × ByteArray × Int :=
  if l = [] ∨ 65535 < l.length ∨ l.any (fun x => !isN x) = true then (⟨#[]⟩, ⟨#[]⟩, 1)
  else if far = false ∧ 131064 < (l.flatMap rowE).length then (⟨#[]⟩, ⟨#[]⟩, 7)
  else if (putN (repN [sizeP far] (l.length + 1)) (0 :: atsN (byOf far) 0 l)).2 = 0 then ((putN (repN [sizeP far] (l.length + 1)) (0 :: atsN (byOf far) 0 l)).1, ⟨(l.flatMap rowE).toArray⟩, 0)
  else (⟨#[]⟩, ⟨#[]⟩, (putN (repN [sizeP far] (l.length + 1)) (0 :: atsN (byOf far) 0 l)).2)
theorem bytesE_size {x : S30} (h : isN x = true) (h0 : x.f0 = true) : (putN [-2, -2, -2, -2] (fourN x)).2 = 0 ∧ (bytesE x).data.toList.length = 8 := by
  unfold isN at h
  rw [if_pos h0] at h
  simp only [Bool.and_eq_true, decide_eq_true_eq] at h
  refine ⟨h.1, ?_⟩
  have h1 := h.1
  unfold bytesE
  unfold putN at h1 ⊢
  rw [if_neg (by rintro (h | h); · exact absurd h (by decide)
                 · exact h rfl)] at h1 ⊢
  unfold fourN at h1 ⊢
  simp only [puts] at h1 ⊢
  by_cases c1 : fitsN x.f1 (-2) = true
  · by_cases c2 : fitsN x.f2 (-2) = true
    · by_cases c3 : fitsN x.f3 (-2) = true
      · by_cases c4 : fitsN x.f4 (-2) = true
        · rw [if_pos c1, if_pos c2, if_pos c3, if_pos c4]
          simp [bytesN_length]
        · rw [if_pos c1, if_pos c2, if_pos c3, if_neg c4] at h1; exact absurd (show (2 : Int) = 0 from h1) (by decide)
      · rw [if_pos c1, if_pos c2, if_neg c3] at h1; exact absurd (show (2 : Int) = 0 from h1) (by decide)
    · rw [if_pos c1, if_neg c2] at h1; exact absurd (show (2 : Int) = 0 from h1) (by decide)
  · rw [if_neg c1] at h1; exact absurd (show (2 : Int) = 0 from h1) (by decide)
theorem rowE_len {x : S30} (h : isN x = true) : (rowE x).length ≤ 12 := by
  unfold rowE
  by_cases h0 : x.f0 = true
  · rw [if_pos h0]
    have := (bytesE_size h h0).2
    rw [List.length_cons, List.length_cons, List.length_append, this]
    decide
  · rw [if_neg h0]; decide
theorem rows_len : ∀ {l : List S30}, (∀ x ∈ l, isN x = true) → (l.flatMap rowE).length ≤ 12 * l.length
  | [], _ => Nat.le_refl _
  | x :: l, h => by
    have h1 := rowE_len (h x List.mem_cons_self)
    have h2 := rows_len (l := l) (fun y hy => h y (List.mem_cons_of_mem _ hy))
    rw [List.flatMap_cons, List.length_append, List.length_cons]
    omega
theorem atsN_length (d : Nat) : ∀ (l : List S30) (n : Nat), (atsN d n l).length = l.length
  | [], _ => rfl
  | x :: l, n => by simp [atsN, atsN_length d l]
theorem atsN_snoc (d : Nat) (x : S30) : ∀ (l : List S30) (n : Nat), atsN d n (l ++ [x]) = atsN d n l ++ [(((n + (l.flatMap rowE).length + (rowE x).length) / d : Nat) : Int)]
  | [], n => by simp [atsN]
  | y :: l, n => by
    simp only [List.cons_append, atsN]
    rw [atsN_snoc d x l, List.flatMap_cons, List.length_append]
    simp only [Nat.add_assoc]
theorem PutW.wroteS {w W W' : World} {g : Nat} {bs : List UInt8} (h : PutW w g W bs) (s : ByteArray) (h0 : 0 < s.size) (hb : Lib.BuilderAt 52 5 w.heap.size g (.pointer (some ⟨g, 0, none⟩)) (Lib.byteCells bs ++ Lib.strCells s) W') (hB : Below w.heap.size W W') : PutW w g W' (bs ++ s.data.toList) := by
  refine ⟨.inr ?_, fun e => ?_, h.hB.trans hB⟩
  · have : Lib.byteCells (bs ++ s.data.toList) = Lib.byteCells bs ++ Lib.strCells s := by simp [Lib.byteCells, Lib.strCells]
    rw [this]; exact hb
  · have h1 : s.data.toList = [] := (List.append_eq_nil_iff.1 e).2
    have h2 : s.size = s.data.toList.length := by rw [Array.length_toList]; rfl
    rw [h1] at h2
    have h3 : s.size = 0 := h2
    omega
theorem glyfPut_tab : rtab .any (opsOf Try.f9 12) = glyf_Is.T3 := by kernel_rfl
theorem row_type {w : World} {base : Nat} {e : TypeId} {n : Nat} {v : Value} {xs : List Value} (h : w.ownsRow base e 1 v n xs) (k : Nat) (hk : v.ownBlock = some k) : ∃ cur, w.heap[k]? = some (.cells cur e (0, 0)) := by
  rcases h.2 with ⟨h1, _⟩ | ⟨g', cap', cur', hv, _, hg', _⟩
  · rw [h1] at hk; simp [Value.ownBlock] at hk
  · rw [hv] at hk
    simp only [Value.ownBlock, Option.some.injEq] at hk
    exact ⟨cur', by rw [← hk]; exact hg'⟩
theorem PutW.moved {w W W' : World} {g : Nat} {bs : List UInt8} (h : PutW w g W bs) (hk : ∀ (k : Nat) (cur : Array Value) (t : Nat) (z : Nat × Nat), W.heap[k]? = some (.cells cur t z) → t ≠ 3 → W'.heap[k]? = W.heap[k]?) (hB : Below w.heap.size w W') : PutW w g W' bs := by
  have hm : ∀ p, Lib.BuilderAt 52 5 w.heap.size g p (Lib.byteCells bs) W → Lib.BuilderAt 52 5 w.heap.size g p (Lib.byteCells bs) W' := by
    intro p hx
    obtain ⟨h1, v, h2, h3, h4⟩ := hx
    exact ⟨h1, v, (hk g _ _ _ h2 (by decide)).trans h2, own_move h3 (fun k hv => by
      obtain ⟨cur, hc⟩ := row_type h3 k hv
      exact hk k _ _ _ hc (by decide)), h4⟩
  refine ⟨h.b.imp (fun x => hm _ x) (fun x => hm _ x), fun e => ?_, hB⟩
  obtain ⟨p, hp⟩ := h.e e
  exact ⟨p, (hk g _ _ _ hp (by decide)).trans hp⟩
theorem ints_move {w w1 : World} {base : Nat} {v : Value} {xs : List Int} (h : Kd.R (Kd.int .i64) 3 w base (fun _ => True) v xs) (hm : ∀ (k : Nat) (cur : Array Value) (t : Nat) (z : Nat × Nat), w.heap[k]? = some (.cells cur t z) → t = 3 → w1.heap[k]? = w.heap[k]?) : Kd.R (Kd.int .i64) 3 w1 base (fun _ => True) v xs := by
  obtain ⟨h0, inner, ho, hr⟩ := h
  refine ⟨h0, inner, own_move ho (fun k hk => ?_), hr.imp_ (fun _ _ hp => hp)⟩
  obtain ⟨cur, hc⟩ := row_type ho k hk
  exact hm k _ _ _ hc rfl
theorem ints_grown {w w1 : World} {base g : Nat} {v : Value} {xs : List Int} {t0 : World} {bs : List UInt8} (h : Kd.R (Kd.int .i64) 3 w base (fun _ => True) v xs) (hg : w.grownBy w1 v.ownBlock) (hp : PutW t0 g w bs) (hB : Below t0.heap.size t0 w1) : PutW t0 g w1 bs := by
  refine hp.moved (fun k cur t z hk ht => hg.block k (blk_lt hk) (fun e => ?_)) hB
  obtain ⟨h0, inner, ho, hr⟩ := h
  obtain ⟨cur', hc⟩ := row_type ho k e.symm
  rw [hk] at hc
  simp only [Option.some.injEq, Obj.cells.injEq] at hc
  exact ht hc.2.1
theorem at_next {d n : Nat} {l : List S30} {x : S30} {L : List Int} {v : Int} (hL : L = 0 :: atsN d 0 l) (hn : n = ((l ++ [x]).flatMap rowE).length) (hv : v = ((n / d : Nat) : Int)) : (0 :: atsN d 0 (l ++ [x])) = L ++ [v] := by
  rw [hL, atsN_snoc, hv, hn, Nat.zero_add, List.flatMap_append, List.length_append]
  simp
theorem quo_one {n d : Nat} (hn : n ≤ 786420) (hd : d = byOf true) : wrap64 ((n : Int)) = ((n / d : Nat) : Int) := by
  rw [hd]
  show _ = ((n / 1 : Nat) : Int)
  rw [Nat.div_one]; unfold wrap64; omega
theorem quo_two {n d : Nat} (hn : n ≤ 786420) (hd : d = byOf false) : wrap64 ((n : Int) / 2) = ((n / d : Nat) : Int) := by
  rw [hd]
  show _ = ((n / 2 : Nat) : Int)
  unfold wrap64; omega
theorem PutW.blk {w W : World} {g : Nat} {bs : List UInt8} (h : PutW w g W bs) : ∃ cs, W.heap[g]? = some (.cells cs 52 (0, 0)) := by
  rcases h.b with ⟨_, v, h2, _⟩ | ⟨_, v, h2, _⟩
  · exact ⟨_, h2⟩
  · exact ⟨_, h2⟩
theorem text_row (y1 y2 y3 y4 : Int) (t : ByteArray) (h : t = bytesE ⟨true, y1, y2, y3, y4⟩) : ((⟨#[0, 0]⟩ ++ t ++ ⟨#[0, 0]⟩ : ByteArray)).data.toList = rowE ⟨true, y1, y2, y3, y4⟩ := by
  rw [h]
  unfold rowE
  rw [if_pos rfl]
  simp
theorem putE_right {l : List S30} {far : Bool} (h : l.length ≠ 0 ∧ l.length ≤ 65535) (hi : ∀ x ∈ l, isN x = true) : putE l far = if far = false ∧ 131064 < (l.flatMap rowE).length then (⟨#[]⟩, ⟨#[]⟩, 7)
  else if (putN (repN [sizeP far] (l.length + 1)) (0 :: atsN (byOf far) 0 l)).2 = 0 then ((putN (repN [sizeP far] (l.length + 1)) (0 :: atsN (byOf far) 0 l)).1, ⟨(l.flatMap rowE).toArray⟩, 0)
  else (⟨#[]⟩, ⟨#[]⟩, (putN (repN [sizeP far] (l.length + 1)) (0 :: atsN (byOf far) 0 l)).2) := by
  unfold putE
  rw [if_neg]
  rintro (h1 | h1 | h1)
  · exact h.1 (by rw [h1]; rfl)
  · omega
  · rw [List.any_eq_true] at h1
    obtain ⟨x, hx, hq⟩ := h1
    rw [hi x hx] at hq
    exact absurd hq (by decide)
theorem rep_fits {z : Int} {n : Nat} (h : n ≤ 65535) : slices_Repeat.f [z] ((n : Int) + 1) = some (repN [z] (n + 1)) := by
  unfold slices_Repeat.f
  rw [if_pos (by refine ⟨by omega, by omega, Nat.lt_of_lt_of_le (by decide : (1 : Nat) < 2) (by decide), ?_⟩; show 1 * ((n : Int) + 1).toNat ≤ _; omega)]
  congr 2
theorem rep_one (z : Int) (k : Nat) : (repN [z] k).length = k := by rw [repN_length]; exact Nat.one_mul _
set_option maxHeartbeats 2000000 in
theorem glyf_put_zero (A0 : Option Addr) (c0 : Nat) (far : Bool) (w : World) :
    Calls Try.prog 9 #[.slice A0 0 c0, .bool far] w fun e w' => e = .returned (.tuple #[.string ⟨#[]⟩, .string ⟨#[]⟩, .int .i64 1]) ∧ Below w.heap.size w w' := by
  go_enter Try.func9, Try.ntmps9
  go_wp2
  go_ret3
  exact ⟨rfl, Below.refl _ _⟩
set_option maxHeartbeats 2000000 in
theorem glyf_put_many (A0 : Option Addr) (c0 n : Nat) (far : Bool) (w : World) (h : 65535 < n) (h2 : n < 9223372036854775808) :
    Calls Try.prog 9 #[.slice A0 n c0, .bool far] w fun e w' => e = .returned (.tuple #[.string ⟨#[]⟩, .string ⟨#[]⟩, .int .i64 1]) ∧ Below w.heap.size w w' := by
  have d1 : ((n : Int) == 0) = false := by simp; omega
  have d2 : decide ((65535 : Int) < (n : Int)) = true := decide_eq_true (by omega)
  have d3 : decide (65535 < n) = true := decide_eq_true h
  have d4 : (n == 0) = false := by simp; omega
  clear h h2
  go_enter Try.func9, Try.ntmps9
  go_wp2
  go_ret3
  exact ⟨rfl, Below.refl _ _⟩
set_option maxHeartbeats 2000000 in
theorem glyf_put_wrong (A0 : Option Addr) (c0 : Nat) (l : List S30) (far : Bool) (w : World) (hr0 : Kd.C k30 w A0 l.length l) (h1 : l.length ≠ 0) (h2 : l.length ≤ 65535) (ha : l.any (fun x => !isN x) = true) :
    Calls Try.prog 9 #[.slice A0 l.length c0, .bool far] w fun e w' => e = .returned (.tuple #[.string ⟨#[]⟩, .string ⟨#[]⟩, .int .i64 1]) ∧ Below w.heap.size w w' := by
  have d1 : ((l.length : Int) == 0) = false := by simp; intro e; exact h1 (by rw [e]; rfl)
  have d2 : decide ((65535 : Int) < (l.length : Int)) = false := decide_eq_false (by omega)
  have d3 : decide (65535 < l.length) = false := decide_eq_false (by omega)
  have d4 : (l.length == 0) = false := by simp; intro e; exact h1 (by rw [e]; rfl)
  have H := Lib.hid (contains_calls A0 c0 l w hr0 h2)
  rw [ha] at H
  clear h1 h2 ha hr0
  go_enter Try.func9, Try.ntmps9
  go_wp2_with fail
  refine H.out.mono ?_
  rintro e w1 ⟨rfl, hb⟩
  have HB := Lib.hid hb
  clear hb H
  go_wp2
  go_ret3
  exact ⟨rfl, HB.out⟩
set_option maxRecDepth 100000 in
set_option maxHeartbeats 4000000 in
theorem glyf_put_walk (A0 : Option Addr) (c0 : Nat) (l : List S30) (far : Bool) (w : World) (hr0 : Kd.C k30 w A0 l.length l) (h1 : l.length ≠ 0) (h2 : l.length ≤ 65535) (ha : l.any (fun x => !isN x) = false) (r : ByteArray × ByteArray × Int) (hr : putE l far = r) :
    Calls Try.prog 9 #[.slice A0 l.length c0, .bool far] w fun e w' => e = .returned (.tuple #[.string r.1, .string r.2.1, .int .i64 r.2.2]) ∧ Below w.heap.size w w' := by
  have d1 : ((l.length : Int) == 0) = false := by simp; intro e; exact h1 (by rw [e]; rfl)
  have d2 : decide ((65535 : Int) < (l.length : Int)) = false := decide_eq_false (by omega)
  have d3 : decide (65535 < l.length) = false := decide_eq_false (by omega)
  have d4 : (l.length == 0) = false := by simp; intro e; exact h1 (by rw [e]; rfl)
  have hz := (zero_of_info (P := Try.prog) (t := 52) (v := .agg #[.pointer none, .slice none 0 0]) (n := 2) (by kernel_rfl)).1
  have hz2 := (zero_of_info (P := Try.prog) (t := 30) (v := .agg #[.bool false, .int .i64 0, .int .i64 0, .int .i64 0, .int .i64 0]) (n := 5) (by kernel_rfl)).1
  have H := Lib.hid (contains_calls A0 c0 l w hr0 h2)
  rw [ha] at H
  have HR0 := Lib.hid hr0
  have HR := Lib.hid hr
  have HL := Lib.hid (show l.length ≠ 0 ∧ l.length ≤ 65535 from ⟨h1, h2⟩)
  have HIS := Lib.hid (show ∀ x ∈ l, isN x = true by
    intro x hx
    have := List.any_eq_false.1 ha x hx
    simpa using this)
  clear h1 h2 ha hr0 hr
  obtain ⟨d, hd⟩ : ∃ d : Nat, d = byOf far := ⟨_, rfl⟩
  have HD := Lib.hid hd
  have hd2 : d = 1 ∨ d = 2 := by rw [hd]; unfold byOf; cases far <;> simp
  have HD2 := Lib.hid hd2
  clear hd hd2
  go_enter Try.func9, Try.ntmps9
  go_wp2_with fail
  refine H.out.mono ?_
  rintro e w1 ⟨rfl, hb⟩
  have HB := Lib.hid hb
  clear hb H
  go_wp2_with fail
  all_goals
    first | (have hfar := ‹far = true›; subst hfar) | (have hfar := ‹far = false›; subst hfar)
    have R0 := lit_R (w1.alloc (.cells #[.pointer none, .slice none 0 0] 52)) [0] (by decide)
    obtain ⟨w3, hw3⟩ : ∃ w3, w3 = (w1.alloc (.cells #[.pointer none, .slice none 0 0] 52)).alloc (.cells #[.int .i64 0] 3) := ⟨_, rfl⟩
    have P0 : PutW w w1.heap.size w3 [] := by
      rw [hw3]
      have e0 : (w1.alloc (.cells #[.pointer none, .slice none 0 0] 52)).heap[w1.heap.size]? = some (.cells #[.pointer none, .slice none 0 0] 52 (0, 0)) := (MapKept.heap_alloc w1 _).1
      have P1 : PutW w w1.heap.size (w1.alloc (.cells #[.pointer none, .slice none 0 0] 52)) [] := ⟨.inl ⟨HB.out.size, _, e0, World.ownsRow_nil _ _ _ _, by simp [Value.ownBlock]⟩, fun _ => ⟨_, e0⟩, HB.out.alloc HB.out.size _⟩
      exact P1.below ((Below.refl _ _).alloc (Nat.le_refl _) _)
    have HP0 := Lib.hid P0
    have HV0 := Lib.hid (show Kd.R (Kd.int .i64) 3 w3 w.heap.size (fun _ => True) (.slice (some ⟨w1.heap.size + 1, 0, none⟩) 1 1) [0] by
      rw [hw3]
      have := Kd.R_lower R0 (Nat.le_trans HB.out.size (by simp : w1.heap.size ≤ (w1.alloc (.cells #[.pointer none, .slice none 0 0] 52)).heap.size))
      simpa using this)
    rw [← hw3]
    clear R0 P0 hw3
    go_loopw [33, 10] (fun v33 v10 wr => ∃ (i : Nat), i ≤ l.length ∧ v33 = .int .i64 (i : Int) ∧ Aside0 (PutW w w1.heap.size wr ((l.take i).flatMap rowE)) ∧ Aside0 (Kd.R (Kd.int .i64) 3 wr w.heap.size (fun _ => True) v10 (0 :: atsN d 0 (l.take i)))) (fun v33 _ _ => l.length - (intOf v33).toNat)
    case atStart => exact ⟨0, Nat.zero_le _, rfl, ⟨HP0.out⟩, ⟨HV0.out⟩⟩
    case round =>
      obtain ⟨i, hi, rfl, HW, HV⟩ := hrel
      by_cases hlt : i < l.length
      · have q0 : (0 : Int) ≤ (i : Int) := by omega
        have q1 : (i : Int) < (l.length : Int) := by omega
        have d5 : decide ((i : Int) < (l.length : Int)) = true := decide_eq_true q1
        have hwi : wrap64 ((i : Int) + 1) = ((i + 1 : Nat) : Int) := by have := HL.out; unfold wrap64; omega
        obtain ⟨ad, rfl, x0, x1, x2, x3, x4⟩ := at_T30 HR0.out (i : Int) q0 q1
        obtain ⟨x, hx⟩ : ∃ x, x = rd_T30 l (i : Int) := ⟨_, rfl⟩
        rw [← hx] at x0 x1 x2 x3 x4
        rw [Int.toNat_natCast] at x0 x1 x2 x3 x4
        replace x0 := (HW.out.hB.cell (World.block_lt_of_cell? _ _ x0)).trans x0
        replace x1 := (HW.out.hB.cell (World.block_lt_of_cell? _ _ x1)).trans x1
        replace x2 := (HW.out.hB.cell (World.block_lt_of_cell? _ _ x2)).trans x2
        replace x3 := (HW.out.hB.cell (World.block_lt_of_cell? _ _ x3)).trans x3
        replace x4 := (HW.out.hB.cell (World.block_lt_of_cell? _ _ x4)).trans x4
        have hxl : x = l[i] := by rw [hx]; unfold rd_T30; simp [List.getD_eq_getElem?_getD, List.getElem?_eq_getElem hlt]
        have HIX := Lib.hid (HIS.out x (by rw [hxl]; exact List.getElem_mem hlt))
        have HTK := Lib.hid (show l.take (i + 1) = l.take i ++ [x] by rw [List.take_add_one, List.getElem?_eq_getElem hlt, hxl]; rfl)
        have HLT := Lib.hid hlt
        clear hx hxl
        replace q0 := eq_true q0
        replace q1 := eq_true q1
        obtain ⟨y0, y1, y2, y3, y4⟩ := x
        dsimp only at x0 x1 x2 x3 x4
        cases y0 with
        | true =>
          go_wp2_with fail
          obtain ⟨wx, hwx⟩ : ∃ wx, wx = wr.alloc (.cells #[.bool true, .int .i64 y1, .int .i64 y2, .int .i64 y3, .int .i64 y4] 30) := ⟨_, rfl⟩
          have HB := Aside0.mk (show Below wr.heap.size wr wx by rw [hwx]; exact (Below.refl wr.heap.size wr).alloc (Nat.le_refl _) _)
          have BK107 := Aside0.mk (show wx.heap[wr.heap.size]? = some (.cells #[.bool true, .int .i64 y1, .int .i64 y2, .int .i64 y3, .int .i64 y4] 30 (0, 0)) by rw [hwx]; exact (MapKept.heap_alloc wr _).1)
          obtain ⟨gb107, hgb⟩ : ∃ g, g = wr.heap.size := ⟨_, rfl⟩
          have GE107 := Aside0.mk (show wr.heap.size ≤ gb107 by rw [hgb]; exact Nat.le_refl _)
          rw [← hgb] at BK107
          rw [← hwx, ← hgb]
          clear hwx hgb x0 x1 x2 x3 x4
          obtain ⟨t108, ht108⟩ : ∃ t : List Int, t = [-2, -2, -2, -2] := ⟨_, rfl⟩
          have A3 := Aside0.mk (show glyf_fields.f = some t108 by rw [ht108]; rfl)
          obtain ⟨y111, hy111⟩ : ∃ y_ : List Int, y_ = (([y1, y2, y3, y4] : List Int)) := ⟨_, rfl⟩
          have Ny111 := Aside0.mk hy111
          obtain ⟨t114, ht114⟩ : ∃ t, t = bytesE ⟨true, y1, y2, y3, y4⟩ := ⟨_, rfl⟩
          have HSZ := Lib.hid (show t114.data.toList.length = 8 by rw [ht114]; exact (bytesE_size HIX.out rfl).2)
          have HTT := Lib.hid ht114
          obtain ⟨t115, ht115⟩ : ∃ t : Int, t = 0 := ⟨_, rfl⟩
          have A4 := Aside0.mk (show bin_Put.f t108 y111 = some (t114, t115) by
            unfold bin_Put.f
            rw [ht108, hy111, ht114, ht115, if_pos (by decide)]
            have h1 := (bytesE_size HIX.out rfl).1
            unfold bytesE
            exact congrArg some (Prod.ext rfl h1))
          clear ht108 hy111 ht114 ht115
          have n0_ := Aside0.mk (blk_drew BK107.out)
          have n1_ := Aside0.mk (below_drew1 HB.out)
          clear BK107
          clear HB
          have BK107 := n0_
          have HB := n1_
          clear n0_ n1_
          refine start_ (n := 16) (S := fun w' => True) (ds := []) #[false, false, false, false, false, false, false, false, false, false, false, false, false, false, false, false] (by kernel_rfl) rfl rfl trivial (fun hHeld => ?_); refine with_tabW glyfPut_tab glyf_Is.bits3 (fun HT_ HW_ => ?_)
          generalize wx.drew = w9 at BK107 HB hHeld ⊢
          refine pure_ (i := 1) (N := some 41) (v := ?_) (a' := ?_) #[false, true, false, false, false, false, false, false, false, false, false, false, false, false, false, false] rfl rfl (any_of HT_.out (by kernel_rfl)) (fun _ _ _ h => h) (Or.inl ⟨by rfl, ?_⟩) ?_ ?_
          rotate_left
          · intro w'
            go_simp
            with_reducible rfl
          rotate_left
          · simp only [Act.put, List.setIfInBounds_toArray, List.set_cons_zero, List.set_cons_succ, i64_w, i32_w]
            rfl
          refine pure_ (i := 3) (N := some 43) (v := ?_) (a' := ?_) #[false, true, false, true, false, false, false, false, false, false, false, false, false, false, false, false] rfl rfl (any_of HT_.out (by kernel_rfl)) (fun _ _ _ h => h) (Or.inl ⟨by rfl, ?_⟩) ?_ ?_
          rotate_left
          · intro w'
            go_simp
            with_reducible rfl
          rotate_left
          · simp only [Act.put, List.setIfInBounds_toArray, List.set_cons_zero, List.set_cons_succ, i64_w, i32_w]
            rfl
          refine pure_ (i := 5) (N := some 45) (v := ?_) (a' := ?_) #[false, true, false, true, false, true, false, false, false, false, false, false, false, false, false, false] rfl rfl (any_of HT_.out (by kernel_rfl)) (fun _ _ _ h => h) (Or.inl ⟨by rfl, ?_⟩) ?_ ?_
          rotate_left
          · intro w'
            go_simp
            with_reducible rfl
          rotate_left
          · simp only [Act.put, List.setIfInBounds_toArray, List.set_cons_zero, List.set_cons_succ, i64_w, i32_w]
            rfl
          refine pure_ (i := 7) (N := some 47) (v := ?_) (a' := ?_) #[false, true, false, true, false, true, false, true, false, false, false, false, false, false, false, false] rfl rfl (any_of HT_.out (by kernel_rfl)) (fun _ _ _ h => h) (Or.inl ⟨by rfl, ?_⟩) ?_ ?_
          rotate_left
          · intro w'
            go_simp
            with_reducible rfl
          rotate_left
          · simp only [Act.put, List.setIfInBounds_toArray, List.set_cons_zero, List.set_cons_succ, i64_w, i32_w]
            rfl
          refine inv_at [0, 2, 4, 6, 8, 9, 10, 11, 12, 13, 14, 15] (fun a0_ b a w' => ∃ (v109 : Value) (v112 : Value), a = putSel a0_ b [(0, 40, v109), (2, 42, .int .i64 y1), (4, 44, .int .i64 y2), (6, 46, .int .i64 y3), (8, 48, .int .i64 y4), (9, 49, v112), (10, 50, .tuple #[.string t114, .int .i64 t115]), (11, 39, .tuple #[.string t114, .int .i64 t115]), (12, 51, .string t114), (13, 52, .int .i64 t115), (14, 13, .string t114), (15, 14, .int .i64 t115)] ∧ (w'.heap[gb107]? = some (.cells #[.bool true, .int .i64 y1, .int .i64 y2, .int .i64 y3, .int .i64 y4] 30 (0, 0))) ∧ (Below wr.heap.size wr w') ∧ (b 0 = true → Kd.R (Kd.int .i64) 3 w' wr.heap.size (fun _ => True) v109 t108) ∧ (b 9 = true → Kd.R (Kd.int .i64) 3 w' wr.heap.size (fun _ => True) v112 y111)) HT_.out HW_.out (by kernel_rfl) (by kernel_rfl) ?_ ?_ ?_
          · exact ⟨.bool false, .bool false, by simp only [putSel, Bool.false_eq_true, if_false], BK107.out, HB.out, fun h_ => absurd h_ (by decide), fun h_ => absurd h_ (by decide)⟩
          · skip
            clear BK107 HB
            refine steps_cons ?_ ?_
            · rintro b a w' ⟨v109, v112, ha, Q_BK107, Q_HB, Q_HO110, Q_HO113⟩ hb_ hon hoff
              refine ⟨_, rfl, fun K hK => ?_⟩
              replace ha := Aside0.mk ha
              have BK107 := Aside0.mk Q_BK107
              have HB := Aside0.mk Q_HB
              refine goes_ Try.func24 (by kernel_rfl) rfl #[] (by rfl) rfl rfl (by first | (simp only [List.map_toArray, List.map_cons, List.map_nil, Act.eval, Array.getD_eq_getD_getElem?, Option.getD_some]; done) | (simp only [List.map_toArray, List.map_cons, List.map_nil, Act.eval, Array.getD_eq_getD_getElem?, Option.getD_some]; rfl)) ?_
              with_reducible refine (glyf_fields.calls  t108 _ A3.out).mono ?_
              rintro e w10 ⟨v109, rfl, ho0, hb⟩
              refine ⟨_, rfl, ?_⟩
              have n0_ := Aside0.mk (Kd.R_lower ho0 (below_size (by repeat (first | (with_reducible first | exact HB.out | apply below_alloc | apply pw_below_drewN | apply below_drew1 | refine below_set ?_ GE107.out) | exact HB.out))))
              have n1_ := Aside0.mk (blk_below (g := gb107) (o := .cells #[.bool true, .int .i64 y1, .int .i64 y2, .int .i64 y3, .int .i64 y4] 30 (0, 0)) (by (with_reducible repeat (first | refine blk_drewN ?_ _ | refine blk_drew ?_ | refine blk_alloc ?_ _)); exact BK107.out) hb)
              have n2_ := Aside0.mk (below_step (by repeat (first | (with_reducible first | exact HB.out | apply below_alloc | apply pw_below_drewN | apply below_drew1 | refine below_set ?_ GE107.out) | exact HB.out)) hb)
              have z_HO113 := fun (h0_ : b 9 = true) => (show Kd.R (Kd.int .i64) 3 w10 wr.heap.size (fun _ => True) v112 y111 from by first | exact (Kd.R_elder' (by (with_reducible repeat (first | apply Kd.R_alloc | apply Kd.R_drewN | apply Kd.R_drew)); exact (Q_HO113 h0_)) (Kd.R_base ho0) hb) | exact Kd.R_mono (Kd.R_elder' (by (with_reducible repeat (first | apply Kd.R_alloc | apply Kd.R_drewN | apply Kd.R_drew)); exact (Q_HO113 h0_)) (Kd.R_base ho0) hb) (fun _ h_ => by first | trivial | exact h_ | exact h_.1))
              clear BK107
              clear HB
              have HO110 := n0_
              have BK107 := n1_
              have HB := n2_
              clear n0_ n1_ n2_
              (try clear hb)
              (try clear hb2)
              (try clear hk)
              (try clear hi)
              (try clear ho0)
              refine hK.out _ _ ⟨v109, v112, (by rw [ha.out]; exact putSel_upk 0 hb_ rfl rfl rfl), (by (with_reducible repeat (first | refine blk_drewN ?_ _ | refine blk_drew ?_ | refine blk_alloc ?_ _)); exact BK107.out), (by repeat (first | (with_reducible first | exact HB.out | apply below_alloc | apply pw_below_drewN | apply below_drew1 | refine below_set ?_ GE107.out) | exact HB.out)), fun _ => (by (with_reducible repeat (first | apply Kd.R_alloc | apply Kd.R_drewN | apply Kd.R_drew)); exact HO110.out), z_HO113⟩
            refine steps_cons ?_ ?_
            · rintro b a w' ⟨v109, v112, ha, Q_BK107, Q_HB, Q_HO110, Q_HO113⟩ hb_ hon hoff
              refine ⟨_, rfl, fun K hK => ?_⟩
              have e41 : a.tmps[41]? = some (.pointer (some ⟨gb107, 1, none⟩)) := by rw [ha]; exact (putSel_off rfl).trans rfl
              replace ha := Aside0.mk ha
              have BK107 := Aside0.mk Q_BK107
              have HB := Aside0.mk Q_HB
              have hc0_ : w'.cell? ⟨gb107, 0, none⟩ = some (.bool true) := (blk_cell BK107.out 0).trans rfl
              have hc1_ : w'.cell? ⟨gb107, 1, none⟩ = some (.int .i64 y1) := (blk_cell BK107.out 1).trans rfl
              have hc2_ : w'.cell? ⟨gb107, 2, none⟩ = some (.int .i64 y2) := (blk_cell BK107.out 2).trans rfl
              have hc3_ : w'.cell? ⟨gb107, 3, none⟩ = some (.int .i64 y3) := (blk_cell BK107.out 3).trans rfl
              have hc4_ : w'.cell? ⟨gb107, 4, none⟩ = some (.int .i64 y4) := (blk_cell BK107.out 4).trans rfl
              refine value_ (w1 := w') (v := .int .i64 y1) (by rfl) rfl ?_ ?_
              · go_simp
                (try simp only [i64_w])
                try rfl
              refine hK.out _ _ ⟨v109, v112, (by rw [ha.out]; exact putSel_upk 1 hb_ rfl rfl rfl), Q_BK107, Q_HB, Q_HO110, fun h0_ => absurd ((hoff 9 (by kernel_rfl)).symm.trans h0_) (by decide)⟩
            refine steps_cons ?_ ?_
            · rintro b a w' ⟨v109, v112, ha, Q_BK107, Q_HB, Q_HO110, Q_HO113⟩ hb_ hon hoff
              refine ⟨_, rfl, fun K hK => ?_⟩
              have e43 : a.tmps[43]? = some (.pointer (some ⟨gb107, 2, none⟩)) := by rw [ha]; exact (putSel_off rfl).trans rfl
              replace ha := Aside0.mk ha
              have BK107 := Aside0.mk Q_BK107
              have HB := Aside0.mk Q_HB
              have hc0_ : w'.cell? ⟨gb107, 0, none⟩ = some (.bool true) := (blk_cell BK107.out 0).trans rfl
              have hc1_ : w'.cell? ⟨gb107, 1, none⟩ = some (.int .i64 y1) := (blk_cell BK107.out 1).trans rfl
              have hc2_ : w'.cell? ⟨gb107, 2, none⟩ = some (.int .i64 y2) := (blk_cell BK107.out 2).trans rfl
              have hc3_ : w'.cell? ⟨gb107, 3, none⟩ = some (.int .i64 y3) := (blk_cell BK107.out 3).trans rfl
              have hc4_ : w'.cell? ⟨gb107, 4, none⟩ = some (.int .i64 y4) := (blk_cell BK107.out 4).trans rfl
              refine value_ (w1 := w') (v := .int .i64 y2) (by rfl) rfl ?_ ?_
              · go_simp
                (try simp only [i64_w])
                try rfl
              refine hK.out _ _ ⟨v109, v112, (by rw [ha.out]; exact putSel_upk 2 hb_ rfl rfl rfl), Q_BK107, Q_HB, Q_HO110, fun h0_ => absurd ((hoff 9 (by kernel_rfl)).symm.trans h0_) (by decide)⟩
            refine steps_cons ?_ ?_
            · rintro b a w' ⟨v109, v112, ha, Q_BK107, Q_HB, Q_HO110, Q_HO113⟩ hb_ hon hoff
              refine ⟨_, rfl, fun K hK => ?_⟩
              have e45 : a.tmps[45]? = some (.pointer (some ⟨gb107, 3, none⟩)) := by rw [ha]; exact (putSel_off rfl).trans rfl
              replace ha := Aside0.mk ha
              have BK107 := Aside0.mk Q_BK107
              have HB := Aside0.mk Q_HB
              have hc0_ : w'.cell? ⟨gb107, 0, none⟩ = some (.bool true) := (blk_cell BK107.out 0).trans rfl
              have hc1_ : w'.cell? ⟨gb107, 1, none⟩ = some (.int .i64 y1) := (blk_cell BK107.out 1).trans rfl
              have hc2_ : w'.cell? ⟨gb107, 2, none⟩ = some (.int .i64 y2) := (blk_cell BK107.out 2).trans rfl
              have hc3_ : w'.cell? ⟨gb107, 3, none⟩ = some (.int .i64 y3) := (blk_cell BK107.out 3).trans rfl
              have hc4_ : w'.cell? ⟨gb107, 4, none⟩ = some (.int .i64 y4) := (blk_cell BK107.out 4).trans rfl
              refine value_ (w1 := w') (v := .int .i64 y3) (by rfl) rfl ?_ ?_
              · go_simp
                (try simp only [i64_w])
                try rfl
              refine hK.out _ _ ⟨v109, v112, (by rw [ha.out]; exact putSel_upk 3 hb_ rfl rfl rfl), Q_BK107, Q_HB, Q_HO110, fun h0_ => absurd ((hoff 9 (by kernel_rfl)).symm.trans h0_) (by decide)⟩
            refine steps_cons ?_ ?_
            · rintro b a w' ⟨v109, v112, ha, Q_BK107, Q_HB, Q_HO110, Q_HO113⟩ hb_ hon hoff
              refine ⟨_, rfl, fun K hK => ?_⟩
              have e47 : a.tmps[47]? = some (.pointer (some ⟨gb107, 4, none⟩)) := by rw [ha]; exact (putSel_off rfl).trans rfl
              replace ha := Aside0.mk ha
              have BK107 := Aside0.mk Q_BK107
              have HB := Aside0.mk Q_HB
              have hc0_ : w'.cell? ⟨gb107, 0, none⟩ = some (.bool true) := (blk_cell BK107.out 0).trans rfl
              have hc1_ : w'.cell? ⟨gb107, 1, none⟩ = some (.int .i64 y1) := (blk_cell BK107.out 1).trans rfl
              have hc2_ : w'.cell? ⟨gb107, 2, none⟩ = some (.int .i64 y2) := (blk_cell BK107.out 2).trans rfl
              have hc3_ : w'.cell? ⟨gb107, 3, none⟩ = some (.int .i64 y3) := (blk_cell BK107.out 3).trans rfl
              have hc4_ : w'.cell? ⟨gb107, 4, none⟩ = some (.int .i64 y4) := (blk_cell BK107.out 4).trans rfl
              refine value_ (w1 := w') (v := .int .i64 y4) (by rfl) rfl ?_ ?_
              · go_simp
                (try simp only [i64_w])
                try rfl
              refine hK.out _ _ ⟨v109, v112, (by rw [ha.out]; exact putSel_upk 4 hb_ rfl rfl rfl), Q_BK107, Q_HB, Q_HO110, fun h0_ => absurd ((hoff 9 (by kernel_rfl)).symm.trans h0_) (by decide)⟩
            refine steps_cons ?_ ?_
            · rintro b a w' ⟨v109, v112, ha, Q_BK107, Q_HB, Q_HO110, Q_HO113⟩ hb_ hon hoff
              refine ⟨_, rfl, fun K hK => ?_⟩
              have e42 : a.tmps[42]? = some (.int .i64 y1) := by rw [ha]; exact putSel_on (e := (2, 42, .int .i64 y1)) 1 rfl rfl (hon 2 (by kernel_rfl)) rfl
              have e44 : a.tmps[44]? = some (.int .i64 y2) := by rw [ha]; exact putSel_on (e := (4, 44, .int .i64 y2)) 2 rfl rfl (hon 4 (by kernel_rfl)) rfl
              have e46 : a.tmps[46]? = some (.int .i64 y3) := by rw [ha]; exact putSel_on (e := (6, 46, .int .i64 y3)) 3 rfl rfl (hon 6 (by kernel_rfl)) rfl
              have e48 : a.tmps[48]? = some (.int .i64 y4) := by rw [ha]; exact putSel_on (e := (8, 48, .int .i64 y4)) 4 rfl rfl (hon 8 (by kernel_rfl)) rfl
              replace ha := Aside0.mk ha
              have BK107 := Aside0.mk Q_BK107
              have HB := Aside0.mk Q_HB
              refine Kd.R_lit_step (Kd.int .i64) _ 3 ?hg (N := 49) ?hd (xs := ([y1, y2, y3, y4] : List Int)) (inner := [.int .i64 y1, .int .i64 y2, .int .i64 y3, .int .i64 y4]) (ok := fun _ => True) (okp := fun _ => True) ?hr ?hp (fun _ hk => hk) trivial (Below.refl _ _) (Nat.le_refl _) (by simp) ?_; (case hd => rfl); (case hg => rfl); (case hr => first | (go_simp; done) | (go_simp; rfl)); (case hp => exact (Reps.one (show Kd.M (Kd.int .i64) _ _ _ y1 [.int .i64 y1] from rfl) (Reps.one (show Kd.M (Kd.int .i64) _ _ _ y2 [.int .i64 y2] from rfl) (Reps.one (show Kd.M (Kd.int .i64) _ _ _ y3 [.int .i64 y3] from rfl) (Reps.one (show Kd.M (Kd.int .i64) _ _ _ y4 [.int .i64 y4] from rfl) (Reps.none _ _))))))
              intro v112 w10 ho11 hb hg_ hnew_
              clear hg_ hnew_
              (first | rw [← Ny111.out] at ho11 | (simp only [Int.reduceToNat] at ho11; rw [← Ny111.out] at ho11))
              have n0_ := Aside0.mk (Kd.R_lower ho11 (below_size (by repeat (first | (with_reducible first | exact HB.out | apply below_alloc | apply pw_below_drewN | apply below_drew1 | refine below_set ?_ GE107.out) | exact HB.out))))
              have n1_ := Aside0.mk (blk_below (g := gb107) (o := .cells #[.bool true, .int .i64 y1, .int .i64 y2, .int .i64 y3, .int .i64 y4] 30 (0, 0)) (by (with_reducible repeat (first | refine blk_drewN ?_ _ | refine blk_drew ?_ | refine blk_alloc ?_ _)); exact BK107.out) hb)
              have n2_ := Aside0.mk (below_step (by repeat (first | (with_reducible first | exact HB.out | apply below_alloc | apply pw_below_drewN | apply below_drew1 | refine below_set ?_ GE107.out) | exact HB.out)) hb)
              have z_HO110 := fun (h0_ : b 0 = true) => (show Kd.R (Kd.int .i64) 3 w10 wr.heap.size (fun _ => True) v109 t108 from by first | exact (Kd.R_elder' (by (with_reducible repeat (first | apply Kd.R_alloc | apply Kd.R_drewN | apply Kd.R_drew)); exact (Q_HO110 h0_)) (Kd.R_base ho11) hb) | exact Kd.R_mono (Kd.R_elder' (by (with_reducible repeat (first | apply Kd.R_alloc | apply Kd.R_drewN | apply Kd.R_drew)); exact (Q_HO110 h0_)) (Kd.R_base ho11) hb) (fun _ h_ => by first | trivial | exact h_ | exact h_.1))
              clear BK107
              clear HB
              have HO113 := n0_
              have BK107 := n1_
              have HB := n2_
              clear n0_ n1_ n2_
              clear hb ho11
              refine hK.out _ _ ⟨v109, v112, (by rw [ha.out]; exact putSel_upk 5 hb_ rfl rfl rfl), (by (with_reducible repeat (first | refine blk_drewN ?_ _ | refine blk_drew ?_ | refine blk_alloc ?_ _)); exact BK107.out), (by repeat (first | (with_reducible first | exact HB.out | apply below_alloc | apply pw_below_drewN | apply below_drew1 | refine below_set ?_ GE107.out) | exact HB.out)), z_HO110, fun _ => (by (with_reducible repeat (first | apply Kd.R_alloc | apply Kd.R_drewN | apply Kd.R_drew)); exact HO113.out)⟩
            refine steps_cons ?_ ?_
            · rintro b a w' ⟨v109, v112, ha, Q_BK107, Q_HB, Q_HO110, Q_HO113⟩ hb_ hon hoff
              refine ⟨_, rfl, fun K hK => ?_⟩
              have e40 : a.tmps[40]? = some (v109) := by rw [ha]; exact putSel_on (e := (0, 40, v109)) 0 rfl rfl (hon 0 (by kernel_rfl)) rfl
              have e49 : a.tmps[49]? = some (v112) := by rw [ha]; exact putSel_on (e := (9, 49, v112)) 5 rfl rfl (hon 9 (by kernel_rfl)) rfl
              replace ha := Aside0.mk ha
              have BK107 := Aside0.mk Q_BK107
              have HB := Aside0.mk Q_HB
              have HO110 := Aside0.mk (Q_HO110 (hon 0 (by kernel_rfl)))
              have HO113 := Aside0.mk (Q_HO113 (hon 9 (by kernel_rfl)))
              obtain ⟨Ao14, co14, eo14⟩ := Kd.R_slice HO110.out
              (first | subst eo14 | (injection eo14 with f1_ f2_ f3_; have f4_ := f1_.symm; have f5_ := f3_.symm; clear f1_ f2_ f3_; subst f4_; subst f5_))
              obtain ⟨Ao15, co15, eo15⟩ := Kd.R_slice HO113.out
              (first | subst eo15 | (injection eo15 with f1_ f2_ f3_; have f4_ := f1_.symm; have f5_ := f3_.symm; clear f1_ f2_ f3_; subst f4_; subst f5_))
              refine goes_ Try.func23 (by kernel_rfl) rfl #[.slice Ao14 t108.length co14, .slice Ao15 y111.length co15] (by rfl) rfl rfl (by first | (simp only [List.map_toArray, List.map_cons, List.map_nil, Act.eval, Array.getD_eq_getD_getElem?, Option.getD_some, e40, e49]; done) | (simp only [List.map_toArray, List.map_cons, List.map_nil, Act.eval, Array.getD_eq_getD_getElem?, Option.getD_some, e40, e49]; rfl)) ?_
              with_reducible refine (bin_Put.calls _ _ t108 _ _ y111 t114 t115 _ ?side1 ?side2 ?side3 ?side4 A4.out).mono ?_
              (case side1 => repeat (first | exact (Kd.R_reads' HO110.out).2.2 | (with_reducible refine Kd.C_alloc ?_ _) | (with_reducible refine Kd.C_drewN ?_ _) | (with_reducible refine Kd.C_drew ?_)))
              (case side2 => exact (Kd.R_reads' HO110.out).2.1)
              (case side3 => repeat (first | exact (Kd.R_reads' HO113.out).2.2 | (with_reducible refine Kd.C_alloc ?_ _) | (with_reducible refine Kd.C_drewN ?_ _) | (with_reducible refine Kd.C_drew ?_)))
              (case side4 => exact (Kd.R_reads' HO113.out).2.1)
              rintro e w16 ⟨rfl, hb⟩
              refine ⟨_, rfl, ?_⟩
              have n0_ := Aside0.mk (Kd.R_below (by (with_reducible repeat (first | apply Kd.R_alloc | apply Kd.R_drewN | apply Kd.R_drew)); exact HO110.out) hb)
              have n1_ := Aside0.mk (Kd.R_below (by (with_reducible repeat (first | apply Kd.R_alloc | apply Kd.R_drewN | apply Kd.R_drew)); exact HO113.out) hb)
              have n2_ := Aside0.mk (blk_below (g := gb107) (o := .cells #[.bool true, .int .i64 y1, .int .i64 y2, .int .i64 y3, .int .i64 y4] 30 (0, 0)) (by (with_reducible repeat (first | refine blk_drewN ?_ _ | refine blk_drew ?_ | refine blk_alloc ?_ _)); exact BK107.out) hb)
              have n3_ := Aside0.mk (below_step (by repeat (first | (with_reducible first | exact HB.out | apply below_alloc | apply pw_below_drewN | apply below_drew1 | refine below_set ?_ GE107.out) | exact HB.out)) hb)
              clear HO110
              clear HO113
              clear BK107
              clear HB
              have HO110 := n0_
              have HO113 := n1_
              have BK107 := n2_
              have HB := n3_
              clear n0_ n1_ n2_ n3_
              (try clear hb)
              (try clear hb2)
              (try clear hk)
              (try clear hi)
              refine hK.out _ _ ⟨.slice Ao14 t108.length co14, .slice Ao15 y111.length co15, (by rw [ha.out]; exact putSel_upk 6 hb_ rfl rfl rfl), (by (with_reducible repeat (first | refine blk_drewN ?_ _ | refine blk_drew ?_ | refine blk_alloc ?_ _)); exact BK107.out), (by repeat (first | (with_reducible first | exact HB.out | apply below_alloc | apply pw_below_drewN | apply below_drew1 | refine below_set ?_ GE107.out) | exact HB.out)), fun _ => (by (with_reducible repeat (first | apply Kd.R_alloc | apply Kd.R_drewN | apply Kd.R_drew)); exact HO110.out), fun _ => (by (with_reducible repeat (first | apply Kd.R_alloc | apply Kd.R_drewN | apply Kd.R_drew)); exact HO113.out)⟩
            refine steps_cons ?_ ?_
            · rintro b a w' ⟨v109, v112, ha, Q_BK107, Q_HB, Q_HO110, Q_HO113⟩ hb_ hon hoff
              refine ⟨_, rfl, fun K hK => ?_⟩
              have e50 : a.tmps[50]? = some (.tuple #[.string t114, .int .i64 t115]) := by rw [ha]; exact putSel_on (e := (10, 50, .tuple #[.string t114, .int .i64 t115])) 6 rfl rfl (hon 10 (by kernel_rfl)) rfl
              replace ha := Aside0.mk ha
              have BK107 := Aside0.mk Q_BK107
              have HB := Aside0.mk Q_HB
              have HO110 := Aside0.mk (Q_HO110 (hon 0 (by kernel_rfl)))
              have HO113 := Aside0.mk (Q_HO113 (hon 9 (by kernel_rfl)))
              refine value_ (w1 := w') (v := .tuple #[.string t114, .int .i64 t115]) (by rfl) rfl ?_ ?_
              · go_simp
                (try simp only [i64_w])
                try rfl
              refine hK.out _ _ ⟨v109, v112, (by rw [ha.out]; exact putSel_upk 7 hb_ rfl rfl rfl), Q_BK107, Q_HB, Q_HO110, Q_HO113⟩
            refine steps_cons ?_ ?_
            · rintro b a w' ⟨v109, v112, ha, Q_BK107, Q_HB, Q_HO110, Q_HO113⟩ hb_ hon hoff
              refine ⟨_, rfl, fun K hK => ?_⟩
              have e39 : a.tmps[39]? = some (.tuple #[.string t114, .int .i64 t115]) := by rw [ha]; exact putSel_on (e := (11, 39, .tuple #[.string t114, .int .i64 t115])) 7 rfl rfl (hon 11 (by kernel_rfl)) rfl
              replace ha := Aside0.mk ha
              have BK107 := Aside0.mk Q_BK107
              have HB := Aside0.mk Q_HB
              have HO110 := Aside0.mk (Q_HO110 (hon 0 (by kernel_rfl)))
              have HO113 := Aside0.mk (Q_HO113 (hon 9 (by kernel_rfl)))
              refine value_ (w1 := w') (v := .string t114) (by rfl) rfl ?_ ?_
              · go_simp
                (try simp only [i64_w])
                try rfl
              refine hK.out _ _ ⟨v109, v112, (by rw [ha.out]; exact putSel_upk 8 hb_ rfl rfl rfl), Q_BK107, Q_HB, Q_HO110, Q_HO113⟩
            refine steps_cons ?_ ?_
            · rintro b a w' ⟨v109, v112, ha, Q_BK107, Q_HB, Q_HO110, Q_HO113⟩ hb_ hon hoff
              refine ⟨_, rfl, fun K hK => ?_⟩
              have e39 : a.tmps[39]? = some (.tuple #[.string t114, .int .i64 t115]) := by rw [ha]; exact putSel_on (e := (11, 39, .tuple #[.string t114, .int .i64 t115])) 7 rfl rfl (hon 11 (by kernel_rfl)) rfl
              replace ha := Aside0.mk ha
              have BK107 := Aside0.mk Q_BK107
              have HB := Aside0.mk Q_HB
              have HO110 := Aside0.mk (Q_HO110 (hon 0 (by kernel_rfl)))
              have HO113 := Aside0.mk (Q_HO113 (hon 9 (by kernel_rfl)))
              refine value_ (w1 := w') (v := .int .i64 t115) (by rfl) rfl ?_ ?_
              · go_simp
                (try simp only [i64_w])
                try rfl
              refine hK.out _ _ ⟨v109, v112, (by rw [ha.out]; exact putSel_upk 9 hb_ rfl rfl rfl), Q_BK107, Q_HB, Q_HO110, Q_HO113⟩
            refine steps_cons ?_ ?_
            · rintro b a w' ⟨v109, v112, ha, Q_BK107, Q_HB, Q_HO110, Q_HO113⟩ hb_ hon hoff
              refine ⟨_, rfl, fun K hK => ?_⟩
              have e51 : a.tmps[51]? = some (.string t114) := by rw [ha]; exact putSel_on (e := (12, 51, .string t114)) 8 rfl rfl (hon 12 (by kernel_rfl)) rfl
              replace ha := Aside0.mk ha
              have BK107 := Aside0.mk Q_BK107
              have HB := Aside0.mk Q_HB
              have HO110 := Aside0.mk (Q_HO110 (hon 0 (by kernel_rfl)))
              have HO113 := Aside0.mk (Q_HO113 (hon 9 (by kernel_rfl)))
              refine value_ (w1 := w') (v := .string t114) (by rfl) rfl ?_ ?_
              · go_simp
                (try simp only [i64_w])
                try rfl
              refine hK.out _ _ ⟨v109, v112, (by rw [ha.out]; exact putSel_upk 10 hb_ rfl rfl rfl), Q_BK107, Q_HB, Q_HO110, Q_HO113⟩
            refine steps_cons ?_ ?_
            · rintro b a w' ⟨v109, v112, ha, Q_BK107, Q_HB, Q_HO110, Q_HO113⟩ hb_ hon hoff
              refine ⟨_, rfl, fun K hK => ?_⟩
              have e52 : a.tmps[52]? = some (.int .i64 t115) := by rw [ha]; exact putSel_on (e := (13, 52, .int .i64 t115)) 9 rfl rfl (hon 13 (by kernel_rfl)) rfl
              replace ha := Aside0.mk ha
              have BK107 := Aside0.mk Q_BK107
              have HB := Aside0.mk Q_HB
              have HO110 := Aside0.mk (Q_HO110 (hon 0 (by kernel_rfl)))
              have HO113 := Aside0.mk (Q_HO113 (hon 9 (by kernel_rfl)))
              refine value_ (w1 := w') (v := .int .i64 t115) (by rfl) rfl ?_ ?_
              · go_simp
                (try simp only [i64_w])
                try rfl
              refine hK.out _ _ ⟨v109, v112, (by rw [ha.out]; exact putSel_upk 11 hb_ rfl rfl rfl), Q_BK107, Q_HB, Q_HO110, Q_HO113⟩
            exact steps_nil
          rintro b a w16 hall ⟨v109, v112, ha, Q_BK107, Q_HB, Q_HO110, Q_HO113⟩
          clear BK107 HB
          have hb0_ := hall 0 (by kernel_rfl)
          have hb2_ := hall 2 (by kernel_rfl)
          have hb4_ := hall 4 (by kernel_rfl)
          have hb6_ := hall 6 (by kernel_rfl)
          have hb8_ := hall 8 (by kernel_rfl)
          have hb9_ := hall 9 (by kernel_rfl)
          have hb10_ := hall 10 (by kernel_rfl)
          have hb11_ := hall 11 (by kernel_rfl)
          have hb12_ := hall 12 (by kernel_rfl)
          have hb13_ := hall 13 (by kernel_rfl)
          have hb14_ := hall 14 (by kernel_rfl)
          have hb15_ := hall 15 (by kernel_rfl)
          subst ha
          simp only [putSel, hb0_, hb2_, hb4_, hb6_, hb8_, hb9_, hb10_, hb11_, hb12_, hb13_, hb14_, hb15_, if_true, Act.put, List.setIfInBounds_toArray, List.set_cons_zero, List.set_cons_succ]
          have BK107 := Aside0.mk Q_BK107
          clear Q_BK107
          have HB := Aside0.mk Q_HB
          clear Q_HB
          have HO110 := Aside0.mk (Q_HO110 hb0_)
          clear Q_HO110
          have HO113 := Aside0.mk (Q_HO113 hb9_)
          clear Q_HO113
          clear hall hb0_ hb2_ hb4_ hb6_ hb8_ hb9_ hb10_ hb11_ hb12_ hb13_ hb14_ hb15_
          have hcz17_0 : w16.cell? ⟨gb107, 0, none⟩ = some (.bool true) := (blk_cell BK107.out 0).trans rfl
          have hcz17_1 : w16.cell? ⟨gb107, 1, none⟩ = some (.int .i64 y1) := (blk_cell BK107.out 1).trans rfl
          have hcz17_2 : w16.cell? ⟨gb107, 2, none⟩ = some (.int .i64 y2) := (blk_cell BK107.out 2).trans rfl
          have hcz17_3 : w16.cell? ⟨gb107, 3, none⟩ = some (.int .i64 y3) := (blk_cell BK107.out 3).trans rfl
          have hcz17_4 : w16.cell? ⟨gb107, 4, none⟩ = some (.int .i64 y4) := (blk_cell BK107.out 4).trans rfl
          have hfz17_0 := blk_frozen BK107.out 0
          have hfz17_1 := blk_frozen BK107.out 1
          have hfz17_2 := blk_frozen BK107.out 2
          have hfz17_3 := blk_frozen BK107.out 3
          have hfz17_4 := blk_frozen BK107.out 4
          have HW5 := Lib.hid (HW.out.below HB.out)
          have HV5 := Lib.hid (Kd.R_below HV.out HB.out)
          clear HO110 HO113 BK107 HB A3 A4 Ny111 hcz17_0 hcz17_1 hcz17_2 hcz17_3 hcz17_4 hfz17_0 hfz17_1 hfz17_2 hfz17_3 hfz17_4
          have h8 : t114.size = 8 := by rw [show t114.size = t114.data.toList.length from by rw [Array.length_toList]; rfl]; exact HSZ.out
          go_wp2_with fail
          obtain ⟨s, hs⟩ : ∃ s : ByteArray, s = (⟨#[0, 0]⟩ ++ t114 ++ ⟨#[0, 0]⟩ : ByteArray) := ⟨_, rfl⟩
          have hsr : s.data.toList = rowE ⟨true, y1, y2, y3, y4⟩ := by rw [hs]; exact text_row y1 y2 y3 y4 t114 HTT.out
          have hs12 : s.size = 12 := by rw [hs]; simp [h8]; rfl
          rw [← hs]
          have HSR := Lib.hid hsr
          clear hs hsr h8
          have hlen0 : ((l.take i).flatMap rowE).length ≤ 786420 := by
            have h1 := rows_len (l := l.take i) (fun y hy => HIS.out y (List.mem_of_mem_take hy))
            have h2 : (l.take i).length ≤ i := List.length_take_le _ _
            have := HL.out
            have := HLT.out
            omega
          refine (writeString_calls w.heap.size w1.heap.size _ s w16 HW5.out.b (by rw [hs12]; decide) (by rw [Lib.byteCells_length, hs12]; omega) HW5.out.hB.size).mono ?_
          rintro e wx ⟨rfl, hb, hB, ho⟩
          have HW1 := Lib.hid (show PutW w w1.heap.size wx ((l.take (i + 1)).flatMap rowE) by
            have := HW5.out.wroteS s (by rw [hs12]; decide) hb hB
            rw [HTK.out, List.flatMap_append, List.flatMap_singleton, ← HSR.out]
            exact this)
          have HV1 := Lib.hid (ints_move HV5.out (fun k cur t z hk ht => ho k cur t z hk (by rw [ht]; decide) (fun e => by
            obtain ⟨cs, hc⟩ := HW5.out.blk
            rw [← e, hk] at hc
            simp only [Option.some.injEq, Obj.cells.injEq] at hc
            rw [ht] at hc
            exact absurd hc.2.1 (by decide))))
          clear hb hB ho hs12 hlen0
          go_wp2_with fail
          refine (len_calls w.heap.size w1.heap.size _ wx HW1.out.b).mono ?_
          rintro e w4 ⟨rfl, rfl⟩
          rw [Lib.byteCells_length]
          have hlen : ((l.take (i + 1)).flatMap rowE).length ≤ 786420 := by
            have h1 := rows_len (l := l.take (i + 1)) (fun y hy => HIS.out y (List.mem_of_mem_take hy))
            have h2 : (l.take (i + 1)).length ≤ i + 1 := List.length_take_le _ _
            have := HL.out
            have := HLT.out
            omega
          have HLEN := Lib.hid hlen
          obtain ⟨n, hn⟩ : ∃ n, n = ((l.take (i + 1)).flatMap rowE).length := ⟨_, rfl⟩
          rw [← hn] at HLEN ⊢
          have HN := Lib.hid hn
          obtain ⟨L, hL⟩ : ∃ L, L = (0 :: atsN d 0 (l.take i)) := ⟨_, rfl⟩
          rw [← hL] at HV1
          have HLL := Lib.hid hL
          have HLX := Lib.hid (show (L.length + 1) * 8 ≤ 140737488355328 by
            rw [hL, List.length_cons, atsN_length]
            have h2 : (l.take i).length ≤ i := List.length_take_le _ _
            have := HL.out
            have := HLT.out
            omega)
          have hll : L.length = i + 1 := by rw [hL, List.length_cons, atsN_length, List.length_take]; have := HLT.out; omega
          have HLI := Lib.hid hll
          clear hn hL hlen hll
          obtain ⟨A10, k10, rfl⟩ := Kd.R_slice HV1.out
          go_wp2_with (at_builtin; refine Kd.R_append (Kd.int .i64) (w0 := w) w.heap.size rfl (.tmp 57) (.tmp 61) 42 3 (.int .i64 0) 8 rfl Try.underlying42 repInfo rfl (by decide) (by decide) _ L _ [.int .i64 _] (fun _ => True) (fun _ => False) rfl rfl rfl (fun _ hk => hk.elim) (fun _ _ => trivial) HV1.out HW1.out.hB HW1.out.hB.size HLX.out ?_)
          intro v1 w7 hv7 hb7 hg7 hat7
          have HW7 := Lib.hid (ints_grown HV1.out hg7 HW1.out hb7)
          have HV7 := Lib.hid hv7
          obtain ⟨A7, k7, rfl⟩ := Kd.R_slice hv7
          clear hv7 hb7 hg7 hat7
          go_wp2
          go_roundw
          case rel => exact ⟨i + 1, HLT.out, by rw [hwi], ⟨HW7.out⟩, ⟨by
            first
            | rw [HTK.out, at_next HLL.out (by rw [HN.out, HTK.out]) (quo_one HLEN.out HD.out)]
            | rw [HTK.out, at_next HLL.out (by rw [HN.out, HTK.out]) (quo_two HLEN.out HD.out)]
            exact HV7.out⟩⟩
          case measure => rw [hwi]; exact less_step (by decide) HLT.out
        | false =>
          go_wp2_with fail
          have HW1 := Lib.hid (HW.out.below ((Below.refl wr.heap.size wr).alloc (Nat.le_refl _) (.cells #[.bool false, .int .i64 y1, .int .i64 y2, .int .i64 y3, .int .i64 y4] 30)))
          have HV1 := Lib.hid (Kd.R_below HV.out ((Below.refl wr.heap.size wr).alloc (Nat.le_refl _) (.cells #[.bool false, .int .i64 y1, .int .i64 y2, .int .i64 y3, .int .i64 y4] 30)))
          obtain ⟨wx, hwx⟩ : ∃ wx, wx = wr.alloc (.cells #[.bool false, .int .i64 y1, .int .i64 y2, .int .i64 y3, .int .i64 y4] 30) := ⟨_, rfl⟩
          rw [← hwx] at HW1 HV1 ⊢
          clear hwx x0 x1 x2 x3 x4
          refine (len_calls w.heap.size w1.heap.size _ wx HW1.out.b).mono ?_
          rintro e w4 ⟨rfl, rfl⟩
          rw [Lib.byteCells_length]
          have hlen : ((l.take i).flatMap rowE).length ≤ 786420 := by
            have h1 := rows_len (l := l.take i) (fun y hy => HIS.out y (List.mem_of_mem_take hy))
            have h2 : (l.take i).length ≤ i := List.length_take_le _ _
            have := HL.out
            have := HLT.out
            omega
          have HLEN := Lib.hid hlen
          obtain ⟨n, hn⟩ : ∃ n, n = ((l.take i).flatMap rowE).length := ⟨_, rfl⟩
          rw [← hn] at HLEN ⊢
          have HN := Lib.hid hn
          obtain ⟨L, hL⟩ : ∃ L, L = (0 :: atsN d 0 (l.take i)) := ⟨_, rfl⟩
          rw [← hL] at HV1
          have HLL := Lib.hid hL
          have HLX := Lib.hid (show (L.length + 1) * 8 ≤ 140737488355328 by
            rw [hL, List.length_cons, atsN_length]
            have h2 : (l.take i).length ≤ i := List.length_take_le _ _
            have := HL.out
            have := HLT.out
            omega)
          have hll : L.length = i + 1 := by rw [hL, List.length_cons, atsN_length, List.length_take]; have := HLT.out; omega
          have HLI := Lib.hid hll
          clear hn hL hlen hll
          obtain ⟨A10, k10, rfl⟩ := Kd.R_slice HV1.out
          go_wp2_with (at_builtin; refine Kd.R_append (Kd.int .i64) (w0 := w) w.heap.size rfl (.tmp 57) (.tmp 61) 42 3 (.int .i64 0) 8 rfl Try.underlying42 repInfo rfl (by decide) (by decide) _ L _ [.int .i64 _] (fun _ => True) (fun _ => False) rfl rfl rfl (fun _ hk => hk.elim) (fun _ _ => trivial) HV1.out HW1.out.hB HW1.out.hB.size HLX.out ?_)
          intro v1 w7 hv7 hb7 hg7 hat7
          have HW7 := Lib.hid (ints_grown HV1.out hg7 HW1.out hb7)
          have HV7 := Lib.hid hv7
          obtain ⟨A7, k7, rfl⟩ := Kd.R_slice hv7
          clear hv7 hb7 hg7 hat7
          go_wp2
          go_roundw
          case rel => exact ⟨i + 1, HLT.out, by rw [hwi], ⟨by rw [HTK.out, List.flatMap_append]; simpa [rowE] using HW7.out⟩, ⟨by
            first
            | rw [HTK.out, at_next HLL.out (by rw [HN.out, List.flatMap_append]; simp [rowE]) (quo_one HLEN.out HD.out)]
            | rw [HTK.out, at_next HLL.out (by rw [HN.out, List.flatMap_append]; simp [rowE]) (quo_two HLEN.out HD.out)]
            exact HV7.out⟩⟩
          case measure => rw [hwi]; exact less_step (by decide) HLT.out
      · have hie : i = l.length := by omega
        subst hie
        have d5 : decide ((l.length : Int) < (l.length : Int)) = false := decide_eq_false (by omega)
        have hw' := HW.out
        have hv' := HV.out
        rw [List.take_length] at hw' hv'
        have HW1 := Lib.hid hw'
        have HV1 := Lib.hid hv'
        obtain ⟨bs, hbs⟩ : ∃ bs, bs = l.flatMap rowE := ⟨_, rfl⟩
        rw [← hbs] at HW1
        have HBS := Lib.hid hbs
        have hlen : bs.length ≤ 786420 := by
          rw [hbs]
          have h1 := rows_len (l := l) HIS.out
          have := HL.out
          omega
        have HLEN := Lib.hid hlen
        obtain ⟨n, hn⟩ : ∃ n, n = bs.length := ⟨_, rfl⟩
        rw [← hn] at HLEN
        have HN := Lib.hid hn
        obtain ⟨L, hL⟩ : ∃ L, L = (0 :: atsN d 0 l) := ⟨_, rfl⟩
        rw [← hL] at HV1
        have HLL := Lib.hid hL
        have hll : L.length = l.length + 1 := by rw [hL, List.length_cons, atsN_length]
        have HLI := Lib.hid hll
        clear hw' hv' hbs hlen hn hL hll HP0 HV0
        obtain ⟨A10, k10, rfl⟩ := Kd.R_slice HV1.out
        rw [HLI.out]
        go_wp2_with fail
        first
        | have hq : d = byOf true := HD.out
          clear hq
          have C1 := lit_C wr [4] (by decide)
          refine (slices_Repeat.calls _ 1 [4] _ _ _ C1 (by decide) (rep_fits (z := 4) HL.out.2)).mono ?_
          rintro x w4 ⟨v, rfl, hr, hb⟩
          obtain ⟨A1, k1, rfl⟩ := Kd.R_slice hr
          obtain ⟨_, _, e0, hk1, C2⟩ := Kd.R_reads hr
          injection e0 with e1 e2 e3
          subst e1
          subst e3
          have HC2 := Lib.hid C2
          have HK1 := Lib.hid hk1
          have hbb : Below wr.heap.size wr w4 := ((Below.refl wr.heap.size wr).alloc (Nat.le_refl _) (.cells #[.int .i64 4] 3)).trans (hb.mono (by simp))
          have HW2 := Lib.hid (HW1.out.below hbb)
          have HV2 := Lib.hid (Kd.R_below HV1.out hbb)
          clear C1 hr hb C2 hk1 e2 hbb
          have hl1 : (repN [4] (l.length + 1)).length = l.length + 1 := rep_one _ _
          go_wp2_with fail
          obtain ⟨s, e, hse⟩ : ∃ s e, putN (repN [4] (l.length + 1)) L = (s, e) := ⟨_, _, rfl⟩
          have hc := bin_Put.calls A1 k1 (repN [4] (l.length + 1)) A10 k10 L s e w4 HC2.out HK1.out (Kd.R_reads' HV2.out).2.2 (Kd.R_reads' HV2.out).2.1 (by unfold bin_Put.f; rw [if_pos (by rw [rep_one]; have := HL.out; omega), hse])
          rw [hl1, HLI.out] at hc
          refine hc.mono ?_
          clear hc
          rintro x w5 ⟨rfl, hb⟩
          have HW3 := Lib.hid (HW2.out.below hb)
          clear hb
          have hr2 : r = if e = 0 then (s, ⟨bs.toArray⟩, 0) else (⟨#[]⟩, ⟨#[]⟩, e) := by
            rw [← HR.out, putE_right HL.out HIS.out, if_neg (by rintro ⟨h, _⟩; exact absurd h (by decide))]
            rw [show sizeP true = 4 from rfl, ← HD.out, ← HLL.out, hse, ← HBS.out]
          have HRE := Lib.hid hr2
          clear hse hr2
          by_cases he : e = 0
          · have d8 : (e != 0) = false := by simp [he]
            rw [if_pos he] at HRE
            clear he
            go_wp2_with fail
            cases bs with
            | nil =>
              obtain ⟨p, hp⟩ := HW3.out.e rfl
              refine (string_nil w.heap.size w1.heap.size p _ hp).mono ?_
              rintro x w6 ⟨rfl, hb⟩
              have HB9 := Lib.hid (HW3.out.hB.trans hb)
              clear hb hp
              go_wp2
              go_ret3
              rw [HRE.out]
              exact ⟨rfl, HB9.out⟩
            | cons y ys =>
              refine (string_calls w.heap.size w1.heap.size (y :: ys) _ HW3.out.b (by simp)).mono ?_
              rintro x w6 ⟨rfl, hb⟩
              have HB9 := Lib.hid (HW3.out.hB.trans hb)
              clear hb
              go_wp2
              go_ret3
              rw [HRE.out]
              exact ⟨rfl, HB9.out⟩
          · have d8 : (e != 0) = true := by simp [he]
            rw [if_neg he] at HRE
            clear he
            go_wp2
            go_ret3
            rw [HRE.out]
            exact ⟨rfl, HW3.out.hB⟩
        | fail_if_success (have hq : d = byOf true := HD.out)
          refine (len_calls w.heap.size w1.heap.size _ _ HW1.out.b).mono ?_
          rintro e w9 ⟨rfl, hw9⟩
          rw [hw9]
          clear hw9
          rw [Lib.byteCells_length, ← HN.out]
          by_cases hnl : 131064 < n
          · have d7 : decide ((131064 : Int) < (n : Int)) = true := decide_eq_true (by omega)
            have d9 : decide (131064 < n) = true := decide_eq_true hnl
            have hr2 : r = (⟨#[]⟩, ⟨#[]⟩, 7) := by
              rw [← HR.out, putE_right HL.out HIS.out, if_pos ⟨rfl, by rw [← HBS.out, ← HN.out]; exact hnl⟩]
            have HRE := Lib.hid hr2
            clear hr2 hnl
            go_wp2
            go_ret3
            rw [HRE.out]
            exact ⟨rfl, HW1.out.hB⟩
          · have d7 : decide ((131064 : Int) < (n : Int)) = false := decide_eq_false (by omega)
            have d9 : decide (131064 < n) = false := decide_eq_false hnl
            have HNL := Lib.hid (show ¬ 131064 < (l.flatMap rowE).length by rw [← HBS.out, ← HN.out]; exact hnl)
            clear hnl
            go_wp2_with fail
            have C1 := lit_C wr [2] (by decide)
            refine (slices_Repeat.calls _ 1 [2] _ _ _ C1 (by decide) (rep_fits (z := 2) HL.out.2)).mono ?_
            rintro x w4 ⟨v, rfl, hr, hb⟩
            obtain ⟨A1, k1, rfl⟩ := Kd.R_slice hr
            obtain ⟨_, _, e0, hk1, C2⟩ := Kd.R_reads hr
            injection e0 with e1 e2 e3
            subst e1
            subst e3
            have HC2 := Lib.hid C2
            have HK1 := Lib.hid hk1
            have hbb : Below wr.heap.size wr w4 := ((Below.refl wr.heap.size wr).alloc (Nat.le_refl _) (.cells #[.int .i64 2] 3)).trans (hb.mono (by simp))
            have HW2 := Lib.hid (HW1.out.below hbb)
            have HV2 := Lib.hid (Kd.R_below HV1.out hbb)
            clear C1 hr hb C2 hk1 e2 hbb
            have hl1 : (repN [2] (l.length + 1)).length = l.length + 1 := rep_one _ _
            go_wp2_with fail
            obtain ⟨s, e, hse⟩ : ∃ s e, putN (repN [2] (l.length + 1)) L = (s, e) := ⟨_, _, rfl⟩
            have hc := bin_Put.calls A1 k1 (repN [2] (l.length + 1)) A10 k10 L s e w4 HC2.out HK1.out (Kd.R_reads' HV2.out).2.2 (Kd.R_reads' HV2.out).2.1 (by unfold bin_Put.f; rw [if_pos (by rw [rep_one]; have := HL.out; omega), hse])
            rw [hl1, HLI.out] at hc
            refine hc.mono ?_
            clear hc
            rintro x w5 ⟨rfl, hb⟩
            have HW3 := Lib.hid (HW2.out.below hb)
            clear hb
            have hr2 : r = if e = 0 then (s, ⟨bs.toArray⟩, 0) else (⟨#[]⟩, ⟨#[]⟩, e) := by
              rw [← HR.out, putE_right HL.out HIS.out, if_neg (by rintro ⟨_, h⟩; exact HNL.out h)]
              rw [show sizeP false = 2 from rfl, ← HD.out, ← HLL.out, hse, ← HBS.out]
            have HRE := Lib.hid hr2
            clear hse hr2
            by_cases he : e = 0
            · have d8 : (e != 0) = false := by simp [he]
              rw [if_pos he] at HRE
              clear he
              go_wp2_with fail
              cases bs with
              | nil =>
                obtain ⟨p, hp⟩ := HW3.out.e rfl
                refine (string_nil w.heap.size w1.heap.size p _ hp).mono ?_
                rintro x w6 ⟨rfl, hb⟩
                have HB9 := Lib.hid (HW3.out.hB.trans hb)
                clear hb hp
                go_wp2
                go_ret3
                rw [HRE.out]
                exact ⟨rfl, HB9.out⟩
              | cons y ys =>
                refine (string_calls w.heap.size w1.heap.size (y :: ys) _ HW3.out.b (by simp)).mono ?_
                rintro x w6 ⟨rfl, hb⟩
                have HB9 := Lib.hid (HW3.out.hB.trans hb)
                clear hb
                go_wp2
                go_ret3
                rw [HRE.out]
                exact ⟨rfl, HB9.out⟩
            · have d8 : (e != 0) = true := by simp [he]
              rw [if_neg he] at HRE
              clear he
              go_wp2
              go_ret3
              rw [HRE.out]
              exact ⟨rfl, HW3.out.hB⟩
def glyf_Put.f (l0 : List S30) (a1 : Bool) : Option (ByteArray × ByteArray × Int) := if l0.length < 9223372036854775808 then some (putE l0 a1) else none
theorem glyf_Put.calls (A0 : Option Addr) (c0 : Nat) (l0 : List S30) (a1 : Bool) (r1 : ByteArray) (r2 : ByteArray) (r3 : Int) (w : World) (hr0 : Kd.C k30 w A0 l0.length l0) (hc0 : l0.length ≤ c0) (h : glyf_Put.f l0 a1 = some (r1, r2, r3)) :
    Calls Try.prog 9 #[.slice A0 l0.length c0, .bool a1] w fun e w' => e = .returned (.tuple #[.string r1, .string r2, .int .i64 r3]) ∧ Below w.heap.size w w' := by
  unfold glyf_Put.f at h
  split at h
  · rename_i hb
    have hp := Option.some.inj h
    by_cases h0 : l0.length = 0
    · have hl : l0 = [] := List.eq_nil_of_length_eq_zero h0
      subst hl
      have hr : putE [] a1 = (⟨#[]⟩, ⟨#[]⟩, 1) := by unfold putE; rw [if_pos (.inl rfl)]
      rw [hr] at hp
      obtain ⟨rfl, h2⟩ := Prod.mk.inj hp
      obtain ⟨rfl, rfl⟩ := Prod.mk.inj h2
      exact glyf_put_zero A0 c0 a1 w
    by_cases h1 : 65535 < l0.length
    · have hr : putE l0 a1 = (⟨#[]⟩, ⟨#[]⟩, 1) := by unfold putE; rw [if_pos (.inr (.inl h1))]
      rw [hr] at hp
      obtain ⟨rfl, h2⟩ := Prod.mk.inj hp
      obtain ⟨rfl, rfl⟩ := Prod.mk.inj h2
      exact glyf_put_many A0 c0 _ a1 w h1 hb
    by_cases h2 : l0.any (fun x => !isN x) = true
    · have hr : putE l0 a1 = (⟨#[]⟩, ⟨#[]⟩, 1) := by unfold putE; rw [if_pos (.inr (.inr h2))]
      rw [hr] at hp
      obtain ⟨rfl, h2⟩ := Prod.mk.inj hp
      obtain ⟨rfl, rfl⟩ := Prod.mk.inj h2
      exact glyf_put_wrong A0 c0 l0 a1 w hr0 h0 (by omega) (by assumption)
    · exact glyf_put_walk A0 c0 l0 a1 w hr0 h0 (by omega) (by simpa using h2) (r1, r2, r3) hp
  · exact absurd h (by simp)
end Go.Proofs.Ytjmliafplgjkhaa.P
end
section
namespace Go.Proofs.Ytjmliafplgjkhaa.P
open Go.RowKit Go.Proofs.YtjmliafplgjkhaaW.PrintWords Go.Proofs.YtjmliafplgjkhaaW.PrintLast Go.Proofs.YtjmliafplgjkhaaW.PrintMore
attribute [local go_sem] max2_int min2_int max_two min_two max_three min_three max_four min_four
set_option linter.unusedVariables false
set_option linter.unusedSimpArgs false
def vinculumlaw07_drawn.f (k : Nat)  : Option (Bool) := (some (([(⟨true, 1, (-2), 300, 400⟩ : S30), (⟨false, 0, 0, 0, 0⟩ : S30)] : List (S30)) : List (S30))).bind fun y183 => ((glyf_Put.f y183 false).bind fun bt186 => ((glyf_Get.f bt186.1 bt186.2.1 2 false).bind fun bt189 => ((glyf_Get.f bt186.1 bt186.2.1 3 false).bind fun bt193 => ((glyf_High.f k 1000 2 1 800 (-200) false y183 0).bind fun bt197 => (if bt186.2.2 = 0 then (if bt186.1.toList = ([0, 0, 0, 6, 0, 6] : List UInt8) then (if (bt186.2.1.size : Int) = 12 then (if bt189.2 = bt186.2.2 then ((vinculumref07_Same.f k y183 bt189.1).bind fun t200 => (if t200 = true then (if bt193.2 = 4 then (if bt197.2.2 = bt186.2.2 then (if bt197.1 = 400 then (if bt197.2.1 = 2 then (if 1 < (y183.length : Int) then ((glyf_Is.f ((rd_T30 y183 1).f0) ((rd_T30 y183 1).f1) ((rd_T30 y183 1).f2) ((rd_T30 y183 1).f3) ((rd_T30 y183 1).f4)).bind fun t202 => (if t202 = true then ((glyf_Is.f false 0 0 1 0).bind fun t203 => (some (!t203))) else (some false))) else (none)) else (some false)) else (some false)) else (some false)) else (some false)) else (some false))) else (some false)) else (some false)) else (some false)) else (some false))))))
theorem vinculumlaw07_drawn.mono : ∀ k, LeO (vinculumlaw07_drawn.f k ) (vinculumlaw07_drawn.f (k + 1) ) := by
  intro  k
  unfold vinculumlaw07_drawn.f
  repeat' first
      | (with_reducible exact glyf_High.mono _ _ _ _ _ _ _ _ _)
      | (with_reducible exact vinculumref07_Same.mono _ _ _)
      | (with_reducible exact LeO.refl _)
      | (with_reducible exact LeO.none _)
      | (with_reducible refine LeO.ite ?_ ?_)
      | (with_reducible refine LeO.bind ?_ (fun _ => ?_))
      | exact glyf_High.mono _ _ _ _ _ _ _ _ _
      | exact vinculumref07_Same.mono _ _ _
      | exact LeO.none _
      | refine LeO.ite ?_ ?_
      | refine LeO.bind ?_ (fun _ => ?_)
set_option maxHeartbeats 8000000 in
set_option maxRecDepth 100000 in
theorem vinculumlaw07_drawn.calls (k : Nat)  (r : Bool) (w : World) (h : vinculumlaw07_drawn.f k  = some r) :
    Calls Try.prog 13 #[] w fun e w' => e = .returned (.bool r) ∧ Below w.heap.size w w' := by
  have hu30 := Try.underlying30
  have hu37 := Try.underlying37
  have HB := Aside0.mk (Below.refl w.heap.size w)
  have H : ((some (([(⟨true, 1, (-2), 300, 400⟩ : S30), (⟨false, 0, 0, 0, 0⟩ : S30)] : List (S30)) : List (S30))).bind fun y183 => ((glyf_Put.f y183 false).bind fun bt186 => ((glyf_Get.f bt186.1 bt186.2.1 2 false).bind fun bt189 => ((glyf_Get.f bt186.1 bt186.2.1 3 false).bind fun bt193 => ((glyf_High.f k 1000 2 1 800 (-200) false y183 0).bind fun bt197 => (if bt186.2.2 = 0 then (if bt186.1.toList = ([0, 0, 0, 6, 0, 6] : List UInt8) then (if (bt186.2.1.size : Int) = 12 then (if bt189.2 = bt186.2.2 then ((vinculumref07_Same.f k y183 bt189.1).bind fun t200 => (if t200 = true then (if bt193.2 = 4 then (if bt197.2.2 = bt186.2.2 then (if bt197.1 = 400 then (if bt197.2.1 = 2 then (if 1 < (y183.length : Int) then ((glyf_Is.f ((rd_T30 y183 1).f0) ((rd_T30 y183 1).f1) ((rd_T30 y183 1).f2) ((rd_T30 y183 1).f3) ((rd_T30 y183 1).f4)).bind fun t202 => (if t202 = true then ((glyf_Is.f false 0 0 1 0).bind fun t203 => (some (!t203))) else (some false))) else (none)) else (some false)) else (some false)) else (some false)) else (some false)) else (some false))) else (some false)) else (some false)) else (some false)) else (some false))))))) = some r := h
  clear h
  obtain ⟨y183, hy183⟩ : ∃ y_ : List (S30), y_ = (([(⟨true, 1, (-2), 300, 400⟩ : S30), (⟨false, 0, 0, 0, 0⟩ : S30)] : List (S30))) := ⟨_, rfl⟩
  replace H : ((glyf_Put.f y183 false).bind fun bt186 => ((glyf_Get.f bt186.1 bt186.2.1 2 false).bind fun bt189 => ((glyf_Get.f bt186.1 bt186.2.1 3 false).bind fun bt193 => ((glyf_High.f k 1000 2 1 800 (-200) false y183 0).bind fun bt197 => (if bt186.2.2 = 0 then (if bt186.1.toList = ([0, 0, 0, 6, 0, 6] : List UInt8) then (if (bt186.2.1.size : Int) = 12 then (if bt189.2 = bt186.2.2 then ((vinculumref07_Same.f k y183 bt189.1).bind fun t200 => (if t200 = true then (if bt193.2 = 4 then (if bt197.2.2 = bt186.2.2 then (if bt197.1 = 400 then (if bt197.2.1 = 2 then (if 1 < (y183.length : Int) then ((glyf_Is.f ((rd_T30 y183 1).f0) ((rd_T30 y183 1).f1) ((rd_T30 y183 1).f2) ((rd_T30 y183 1).f3) ((rd_T30 y183 1).f4)).bind fun t202 => (if t202 = true then ((glyf_Is.f false 0 0 1 0).bind fun t203 => (some (!t203))) else (some false))) else (none)) else (some false)) else (some false)) else (some false)) else (some false)) else (some false))) else (some false)) else (some false)) else (some false)) else (some false)))))) = some r := by first | (rw [hy183]; with_reducible exact H) | (have H2_ := (Option.bind_some _ _).symm.trans H; rw [hy183]; with_reducible exact H2_) | (have H2_ := (Option.bind_some _ _).symm.trans H; with_reducible exact H2_) | with_reducible exact H | (rw [hy183]; exact H) | exact H
  have Ny183 := Aside0.mk hy183
  clear hy183
  replace H := Option.bind_eq_some_iff.mp H
  obtain ⟨⟨t186, t187, t188⟩, A10, H⟩ := H
  replace H : ((glyf_Get.f t186 t187 2 false).bind fun bt189 => ((glyf_Get.f t186 t187 3 false).bind fun bt193 => ((glyf_High.f k 1000 2 1 800 (-200) false y183 0).bind fun bt197 => (if t188 = 0 then (if t186.toList = ([0, 0, 0, 6, 0, 6] : List UInt8) then (if (t187.size : Int) = 12 then (if bt189.2 = t188 then ((vinculumref07_Same.f k y183 bt189.1).bind fun t200 => (if t200 = true then (if bt193.2 = 4 then (if bt197.2.2 = t188 then (if bt197.1 = 400 then (if bt197.2.1 = 2 then (if 1 < (y183.length : Int) then ((glyf_Is.f ((rd_T30 y183 1).f0) ((rd_T30 y183 1).f1) ((rd_T30 y183 1).f2) ((rd_T30 y183 1).f3) ((rd_T30 y183 1).f4)).bind fun t202 => (if t202 = true then ((glyf_Is.f false 0 0 1 0).bind fun t203 => (some (!t203))) else (some false))) else (none)) else (some false)) else (some false)) else (some false)) else (some false)) else (some false))) else (some false)) else (some false)) else (some false)) else (some false))))) = some r := H
  have A1 := Aside0.mk A10
  clear A10
  replace H := Option.bind_eq_some_iff.mp H
  obtain ⟨⟨t189, t190⟩, A20, H⟩ := H
  replace H : ((glyf_Get.f t186 t187 3 false).bind fun bt193 => ((glyf_High.f k 1000 2 1 800 (-200) false y183 0).bind fun bt197 => (if t188 = 0 then (if t186.toList = ([0, 0, 0, 6, 0, 6] : List UInt8) then (if (t187.size : Int) = 12 then (if t190 = t188 then ((vinculumref07_Same.f k y183 t189).bind fun t200 => (if t200 = true then (if bt193.2 = 4 then (if bt197.2.2 = t188 then (if bt197.1 = 400 then (if bt197.2.1 = 2 then (if 1 < (y183.length : Int) then ((glyf_Is.f ((rd_T30 y183 1).f0) ((rd_T30 y183 1).f1) ((rd_T30 y183 1).f2) ((rd_T30 y183 1).f3) ((rd_T30 y183 1).f4)).bind fun t202 => (if t202 = true then ((glyf_Is.f false 0 0 1 0).bind fun t203 => (some (!t203))) else (some false))) else (none)) else (some false)) else (some false)) else (some false)) else (some false)) else (some false))) else (some false)) else (some false)) else (some false)) else (some false)))) = some r := H
  have A2 := Aside0.mk A20
  clear A20
  replace H := Option.bind_eq_some_iff.mp H
  obtain ⟨⟨t193, t194⟩, A30, H⟩ := H
  replace H : ((glyf_High.f k 1000 2 1 800 (-200) false y183 0).bind fun bt197 => (if t188 = 0 then (if t186.toList = ([0, 0, 0, 6, 0, 6] : List UInt8) then (if (t187.size : Int) = 12 then (if t190 = t188 then ((vinculumref07_Same.f k y183 t189).bind fun t200 => (if t200 = true then (if t194 = 4 then (if bt197.2.2 = t188 then (if bt197.1 = 400 then (if bt197.2.1 = 2 then (if 1 < (y183.length : Int) then ((glyf_Is.f ((rd_T30 y183 1).f0) ((rd_T30 y183 1).f1) ((rd_T30 y183 1).f2) ((rd_T30 y183 1).f3) ((rd_T30 y183 1).f4)).bind fun t202 => (if t202 = true then ((glyf_Is.f false 0 0 1 0).bind fun t203 => (some (!t203))) else (some false))) else (none)) else (some false)) else (some false)) else (some false)) else (some false)) else (some false))) else (some false)) else (some false)) else (some false)) else (some false))) = some r := H
  have A3 := Aside0.mk A30
  clear A30
  replace H := Option.bind_eq_some_iff.mp H
  obtain ⟨⟨t197, t198, t199⟩, A40, H⟩ := H
  replace H : (if t188 = 0 then (if t186.toList = ([0, 0, 0, 6, 0, 6] : List UInt8) then (if (t187.size : Int) = 12 then (if t190 = t188 then ((vinculumref07_Same.f k y183 t189).bind fun t200 => (if t200 = true then (if t194 = 4 then (if t199 = t188 then (if t197 = 400 then (if t198 = 2 then (if 1 < (y183.length : Int) then ((glyf_Is.f ((rd_T30 y183 1).f0) ((rd_T30 y183 1).f1) ((rd_T30 y183 1).f2) ((rd_T30 y183 1).f3) ((rd_T30 y183 1).f4)).bind fun t202 => (if t202 = true then ((glyf_Is.f false 0 0 1 0).bind fun t203 => (some (!t203))) else (some false))) else (none)) else (some false)) else (some false)) else (some false)) else (some false)) else (some false))) else (some false)) else (some false)) else (some false)) else (some false)) = some r := H
  have A4 := Aside0.mk A40
  clear A40
  by_cases c5 : t188 = 0
  · rw [if_pos c5] at H
    have c5b0 : (t188 == 0) = true := beq_iff_eq.mpr c5
    have c5b1 : (t188 != 0) = false := bne_eq_false_iff_eq.mpr c5
    clear c5
    by_cases c6 : t186.toList = ([0, 0, 0, 6, 0, 6] : List UInt8)
    · rw [if_pos c6] at H
      have c6b0 : (t186.toList == ([0, 0, 0, 6, 0, 6] : List UInt8)) = true := beq_iff_eq.mpr c6
      have c6b1 : (t186.toList != ([0, 0, 0, 6, 0, 6] : List UInt8)) = false := bne_eq_false_iff_eq.mpr c6
      clear c6
      by_cases c7 : (t187.size : Int) = 12
      · rw [if_pos c7] at H
        have c7b0 : ((t187.size : Int) == 12) = true := beq_iff_eq.mpr c7
        have c7b1 : ((t187.size : Int) != 12) = false := bne_eq_false_iff_eq.mpr c7
        clear c7
        by_cases c8 : t190 = t188
        · rw [if_pos c8] at H
          have c8b0 : (t190 == t188) = true := beq_iff_eq.mpr c8
          have c8b1 : (t190 != t188) = false := bne_eq_false_iff_eq.mpr c8
          clear c8
          replace H := Option.bind_eq_some_iff.mp H
          obtain ⟨t200, A90, H⟩ := H
          replace H : (if t200 = true then (if t194 = 4 then (if t199 = t188 then (if t197 = 400 then (if t198 = 2 then (if 1 < (y183.length : Int) then ((glyf_Is.f ((rd_T30 y183 1).f0) ((rd_T30 y183 1).f1) ((rd_T30 y183 1).f2) ((rd_T30 y183 1).f3) ((rd_T30 y183 1).f4)).bind fun t202 => (if t202 = true then ((glyf_Is.f false 0 0 1 0).bind fun t203 => (some (!t203))) else (some false))) else (none)) else (some false)) else (some false)) else (some false)) else (some false)) else (some false)) = some r := H
          have A9 := Aside0.mk A90
          clear A90
          by_cases c10 : t200 = true
          · subst c10
            have H1 : (if t194 = 4 then (if t199 = t188 then (if t197 = 400 then (if t198 = 2 then (if 1 < (y183.length : Int) then ((glyf_Is.f ((rd_T30 y183 1).f0) ((rd_T30 y183 1).f1) ((rd_T30 y183 1).f2) ((rd_T30 y183 1).f3) ((rd_T30 y183 1).f4)).bind fun t202 => (if t202 = true then ((glyf_Is.f false 0 0 1 0).bind fun t203 => (some (!t203))) else (some false))) else (none)) else (some false)) else (some false)) else (some false)) else (some false)) = some r := by rw [if_pos rfl] at H; exact H
            clear H
            have H := H1
            clear H1
            by_cases c11 : t194 = 4
            · rw [if_pos c11] at H
              have c11b0 : (t194 == 4) = true := beq_iff_eq.mpr c11
              have c11b1 : (t194 != 4) = false := bne_eq_false_iff_eq.mpr c11
              clear c11
              by_cases c12 : t199 = t188
              · rw [if_pos c12] at H
                have c12b0 : (t199 == t188) = true := beq_iff_eq.mpr c12
                have c12b1 : (t199 != t188) = false := bne_eq_false_iff_eq.mpr c12
                clear c12
                by_cases c13 : t197 = 400
                · rw [if_pos c13] at H
                  have c13b0 : (t197 == 400) = true := beq_iff_eq.mpr c13
                  have c13b1 : (t197 != 400) = false := bne_eq_false_iff_eq.mpr c13
                  clear c13
                  by_cases c14 : t198 = 2
                  · rw [if_pos c14] at H
                    have c14b0 : (t198 == 2) = true := beq_iff_eq.mpr c14
                    have c14b1 : (t198 != 2) = false := bne_eq_false_iff_eq.mpr c14
                    clear c14
                    by_cases c15 : 1 < (y183.length : Int)
                    · rw [if_pos c15] at H
                      have c15b0 : decide (1 < (y183.length : Int)) = true := decide_eq_true c15
                      have c15b1 : decide (1 < y183.length) = true := decide_eq_true (by omega)
                      clear c15
                      replace H := Option.bind_eq_some_iff.mp H
                      obtain ⟨t202, A160, H⟩ := H
                      replace H : (if t202 = true then ((glyf_Is.f false 0 0 1 0).bind fun t203 => (some (!t203))) else (some false)) = some r := H
                      have A16 := Aside0.mk A160
                      clear A160
                      by_cases c17 : t202 = true
                      · subst c17
                        have H1 : ((glyf_Is.f false 0 0 1 0).bind fun t203 => (some (!t203))) = some r := by rw [if_pos rfl] at H; exact H
                        clear H
                        have H := H1
                        clear H1
                        replace H := Option.bind_eq_some_iff.mp H
                        obtain ⟨t203, A180, H⟩ := H
                        replace H : (some (!t203)) = some r := H
                        have A18 := Aside0.mk A180
                        clear A180
                        obtain rfl := Option.some.inj H
                        go_enter Try.func13, Try.ntmps13
                        go_wp2_with (first | ((with_reducible refine gate_dst (N := 14) rfl ?_); (try (refine gate_guard (by rfl) ?_; dsimp only)); refine Kd.R_lit k30 _ 30 ?hg (N := 14) ?hd (xs := ([(⟨true, 1, (-2), 300, 400⟩ : S30), (⟨false, 0, 0, 0, 0⟩ : S30)] : List (S30))) (inner := [.bool true, .int .i64 1, .int .i64 (-2), .int .i64 300, .int .i64 400, .bool false, .int .i64 0, .int .i64 0, .int .i64 0, .int .i64 0]) (ok := fun _ => True) (okp := fun _ => True) ?hr ?hp (fun _ hk => hk) trivial (Below.refl _ _) (Nat.le_refl _) (by simp) ?_; (case hd => rfl); (case hg => rfl); (case hr => first | (go_simp; done) | (go_simp; rfl)); (case hp => exact (Reps.c5 (show Kd.M k30 _ _ _ (⟨true, 1, (-2), 300, 400⟩ : S30) [.bool true, .int .i64 1, .int .i64 (-2), .int .i64 300, .int .i64 400] from (k30_mkM _ _ _ (⟨true, 1, (-2), 300, 400⟩ : S30) )) (Reps.c5 (show Kd.M k30 _ _ _ (⟨false, 0, 0, 0, 0⟩ : S30) [.bool false, .int .i64 0, .int .i64 0, .int .i64 0, .int .i64 0] from (k30_mkM _ _ _ (⟨false, 0, 0, 0, 0⟩ : S30) )) (Reps.none _ _)))); intro v184 w19 ho20 hb hg_ hnew_; clear hg_ hnew_; (first | rw [← Ny183.out] at ho20 | (simp only [Int.reduceToNat] at ho20; rw [← Ny183.out] at ho20)); have n0_ := Aside0.mk (Kd.R_lower ho20 (below_size (by repeat (first | (with_reducible first | exact HB.out | apply below_alloc | apply pw_below_drewN | apply below_drew1) | exact HB.out)))); have n1_ := Aside0.mk (below_step (by repeat (first | (with_reducible first | exact HB.out | apply below_alloc | apply pw_below_drewN | apply below_drew1) | exact HB.out)) hb); clear HB; have HO185 := n0_; have HB := n1_; clear n0_ n1_; clear hb ho20; obtain ⟨Ao21, co21, eo21⟩ := Kd.R_slice HO185.out; subst eo21) | ((with_reducible refine gate_callee (f := 9) rfl ?_); refine goesL_ (some 17) rfl rfl Try.func9 (by kernel_rfl) rfl #[.slice Ao21 y183.length co21, .bool false] rfl (by (try simp only [List.map_toArray, List.map_cons, List.map_nil]); first | done | rfl | (simp only [List.length_drop, List.length_take]; rfl)) ?_; (with_reducible refine (glyf_Put.calls _ _ y183 false t186 t187 t188 _ ?side1 ?side2 A1.out).mono ?_); (case side1 => repeat (first | exact (Kd.R_reads' HO185.out).2.2 | (with_reducible refine Kd.C_alloc ?_ _) | (with_reducible refine Kd.C_drewN ?_ _) | (with_reducible refine Kd.C_drew ?_))); (case side2 => exact (Kd.R_reads' HO185.out).2.1); rintro e w22 ⟨rfl, hb⟩; refine ⟨_, rfl, ?_⟩; have n0_ := Aside0.mk (Kd.R_below (by (with_reducible repeat (first | apply Kd.R_alloc | apply Kd.R_drewN | apply Kd.R_drew)); exact HO185.out) hb); have n1_ := Aside0.mk (below_step (by repeat (first | (with_reducible first | exact HB.out | apply below_alloc | apply pw_below_drewN | apply below_drew1) | exact HB.out)) hb); clear HO185; clear HB; have HO185 := n0_; have HB := n1_; clear n0_ n1_; (try clear hb); (try clear hb2); (try clear hk); (try clear hi)) | ((with_reducible refine gate_callee (f := 7) rfl ?_); refine goesL_ (some 24) rfl rfl Try.func7 (by kernel_rfl) rfl #[.string t186, .string t187, .int .i64 2, .bool false] rfl (by (try simp only [List.map_toArray, List.map_cons, List.map_nil]); first | done | rfl | (simp only [List.length_drop, List.length_take]; rfl)) ?_; (with_reducible refine (glyf_Get.calls t186 t187 2 false t189 t190 _ A2.out).mono ?_); rintro e w23 ⟨v191, rfl, ho0, hb⟩; refine ⟨_, rfl, ?_⟩; have n0_ := Aside0.mk (Kd.R_elder' (by (with_reducible repeat (first | apply Kd.R_alloc | apply Kd.R_drewN | apply Kd.R_drew)); exact HO185.out) (Kd.R_base ho0) hb); have n1_ := Aside0.mk (Kd.R_lower (Kd.R_new' ho0 (Kd.R_lt (by (with_reducible repeat (first | apply Kd.R_alloc | apply Kd.R_drewN | apply Kd.R_drew)); exact HO185.out))) (below_size (by repeat (first | (with_reducible first | exact HB.out | apply below_alloc | apply pw_below_drewN | apply below_drew1) | exact HB.out)))); have n2_ := Aside0.mk (below_step (by repeat (first | (with_reducible first | exact HB.out | apply below_alloc | apply pw_below_drewN | apply below_drew1) | exact HB.out)) hb); clear HO185; clear HB; have HO185 := n0_; have HO192 := n1_; have HB := n2_; clear n0_ n1_ n2_; (try clear hb); (try clear hb2); (try clear hk); (try clear hi); (try clear ho0)) | ((with_reducible refine gate_callee (f := 7) rfl ?_); refine goesL_ (some 30) rfl rfl Try.func7 (by kernel_rfl) rfl #[.string t186, .string t187, .int .i64 3, .bool false] rfl (by (try simp only [List.map_toArray, List.map_cons, List.map_nil]); first | done | rfl | (simp only [List.length_drop, List.length_take]; rfl)) ?_; (with_reducible refine (glyf_Get.calls t186 t187 3 false t193 t194 _ A3.out).mono ?_); rintro e w24 ⟨v195, rfl, ho0, hb⟩; refine ⟨_, rfl, ?_⟩; have n0_ := Aside0.mk (Kd.R_elder' (by (with_reducible repeat (first | apply Kd.R_alloc | apply Kd.R_drewN | apply Kd.R_drew)); exact HO185.out) (Kd.R_base ho0) hb); have n1_ := Aside0.mk (Kd.R_elder' (by (with_reducible repeat (first | apply Kd.R_alloc | apply Kd.R_drewN | apply Kd.R_drew)); exact HO192.out) (Kd.R_base ho0) hb); have n2_ := Aside0.mk (Kd.R_lower (Kd.R_new' (Kd.R_new' ho0 (Kd.R_lt (by (with_reducible repeat (first | apply Kd.R_alloc | apply Kd.R_drewN | apply Kd.R_drew)); exact HO185.out))) (Kd.R_lt (by (with_reducible repeat (first | apply Kd.R_alloc | apply Kd.R_drewN | apply Kd.R_drew)); exact HO192.out))) (below_size (by repeat (first | (with_reducible first | exact HB.out | apply below_alloc | apply pw_below_drewN | apply below_drew1) | exact HB.out)))); have n3_ := Aside0.mk (below_step (by repeat (first | (with_reducible first | exact HB.out | apply below_alloc | apply pw_below_drewN | apply below_drew1) | exact HB.out)) hb); clear HO185; clear HO192; clear HB; have HO185 := n0_; have HO192 := n1_; have HO196 := n2_; have HB := n3_; clear n0_ n1_ n2_ n3_; (try clear hb); (try clear hb2); (try clear hk); (try clear hi); (try clear ho0)) | ((with_reducible refine gate_callee (f := 15) rfl ?_); refine goesL_ (some 36) rfl rfl Try.func15 (by kernel_rfl) rfl #[.agg #[.int .i64 1000, .int .i64 2, .int .i64 1, .int .i64 800, .int .i64 (-200), .bool false], .slice Ao21 y183.length co21, .int .i64 0] rfl (by (try simp only [List.map_toArray, List.map_cons, List.map_nil]); first | done | rfl | (simp only [List.length_drop, List.length_take]; rfl)) ?_; (with_reducible refine (glyf_High.calls k 1000 2 1 800 (-200) false _ _ y183 0 t197 t198 t199 _ ?side1 ?side2 A4.out).mono ?_); (case side1 => repeat (first | exact (Kd.R_reads' HO185.out).2.2 | (with_reducible refine Kd.C_alloc ?_ _) | (with_reducible refine Kd.C_drewN ?_ _) | (with_reducible refine Kd.C_drew ?_))); (case side2 => exact (Kd.R_reads' HO185.out).2.1); rintro e w25 ⟨rfl, hb⟩; refine ⟨_, rfl, ?_⟩; have n0_ := Aside0.mk (Kd.R_below (by (with_reducible repeat (first | apply Kd.R_alloc | apply Kd.R_drewN | apply Kd.R_drew)); exact HO185.out) hb); have n1_ := Aside0.mk (Kd.R_below (by (with_reducible repeat (first | apply Kd.R_alloc | apply Kd.R_drewN | apply Kd.R_drew)); exact HO192.out) hb); have n2_ := Aside0.mk (Kd.R_below (by (with_reducible repeat (first | apply Kd.R_alloc | apply Kd.R_drewN | apply Kd.R_drew)); exact HO196.out) hb); have n3_ := Aside0.mk (below_step (by repeat (first | (with_reducible first | exact HB.out | apply below_alloc | apply pw_below_drewN | apply below_drew1) | exact HB.out)) hb); clear HO185; clear HO192; clear HO196; clear HB; have HO185 := n0_; have HO192 := n1_; have HO196 := n2_; have HB := n3_; clear n0_ n1_ n2_ n3_; (try clear hb); (try clear hb2); (try clear hk); (try clear hi); obtain ⟨Ao26, co26, eo26⟩ := Kd.R_slice HO192.out; subst eo26) | (go_at_call 14; (with_reducible refine (vinculumref07_Same.calls k _ _ y183 _ _ t189 true _ ?side1 ?side2 ?side3 ?side4 A9.out).mono ?_); (case side1 => repeat (first | exact (Kd.R_reads' HO185.out).2.2 | (with_reducible refine Kd.C_alloc ?_ _) | (with_reducible refine Kd.C_drewN ?_ _) | (with_reducible refine Kd.C_drew ?_))); (case side2 => exact (Kd.R_reads' HO185.out).2.1); (case side3 => repeat (first | exact (Kd.R_reads' HO192.out).2.2 | (with_reducible refine Kd.C_alloc ?_ _) | (with_reducible refine Kd.C_drewN ?_ _) | (with_reducible refine Kd.C_drew ?_))); (case side4 => exact (Kd.R_reads' HO192.out).2.1); rintro e w' ⟨rfl, ⟨nd, rfl⟩⟩; have p201 : 0 ≤ (1 : Int) := (by omega); have q201 : 1 < (y183.length : Int) := of_decide_eq_true (by first | (with_reducible assumption) | assumption); obtain ⟨ad201, e201, hx201_0, hx201_1, hx201_2, hx201_3, hx201_4⟩ := at_T30 (Kd.R_reads' HO185.out).2.2 1 p201 q201; cases e201; (try simp only [show (1 : Int).toNat = 1 from rfl, Nat.reduceMul, Nat.reduceEqDiff, Go.Addr.add, ↓reduceIte] at hx201_0); (try simp only [show (1 : Int).toNat = 1 from rfl, Nat.reduceMul, Nat.reduceEqDiff, Go.Addr.add, ↓reduceIte] at hx201_1); (try simp only [show (1 : Int).toNat = 1 from rfl, Nat.reduceMul, Nat.reduceEqDiff, Go.Addr.add, ↓reduceIte] at hx201_2); (try simp only [show (1 : Int).toNat = 1 from rfl, Nat.reduceMul, Nat.reduceEqDiff, Go.Addr.add, ↓reduceIte] at hx201_3); (try simp only [show (1 : Int).toNat = 1 from rfl, Nat.reduceMul, Nat.reduceEqDiff, Go.Addr.add, ↓reduceIte] at hx201_4); have qi201 : (1 < y183.length) = True := eq_true (by omega); (try rw [show ((1 : Int)).toNat = 1 from rfl] at hx201_0); (try rw [show 1 * 5 = 5 from rfl] at hx201_0); (try rw [show ((1 : Int)).toNat = 1 from rfl] at hx201_1); (try rw [show 1 * 5 = 5 from rfl] at hx201_1); (try rw [show ((1 : Int)).toNat = 1 from rfl] at hx201_2); (try rw [show 1 * 5 = 5 from rfl] at hx201_2); (try rw [show ((1 : Int)).toNat = 1 from rfl] at hx201_3); (try rw [show 1 * 5 = 5 from rfl] at hx201_3); (try rw [show ((1 : Int)).toNat = 1 from rfl] at hx201_4); (try rw [show 1 * 5 = 5 from rfl] at hx201_4); replace p201 := eq_true p201; replace q201 := eq_true q201) | (go_at_call 11; (with_reducible refine (glyf_Is.calls ((rd_T30 y183 1).f0) ((rd_T30 y183 1).f1) ((rd_T30 y183 1).f2) ((rd_T30 y183 1).f3) ((rd_T30 y183 1).f4) true _ A16.out).mono ?_); rintro e w27 ⟨rfl, hb⟩; have n0_ := Aside0.mk (Kd.R_below (by (with_reducible repeat (first | apply Kd.R_alloc | apply Kd.R_drewN | apply Kd.R_drew)); exact HO185.out) hb); have n1_ := Aside0.mk (Kd.R_below (by (with_reducible repeat (first | apply Kd.R_alloc | apply Kd.R_drewN | apply Kd.R_drew)); exact HO192.out) hb); have n2_ := Aside0.mk (Kd.R_below (by (with_reducible repeat (first | apply Kd.R_alloc | apply Kd.R_drewN | apply Kd.R_drew)); exact HO196.out) hb); have n3_ := Aside0.mk (below_step (by repeat (first | (with_reducible first | exact HB.out | apply below_alloc | apply pw_below_drewN | apply below_drew1) | exact HB.out)) hb); clear HO185; clear HO192; clear HO196; clear HB; have HO185 := n0_; have HO192 := n1_; have HO196 := n2_; have HB := n3_; clear n0_ n1_ n2_ n3_; (try clear hb); (try clear hb2); (try clear hk); (try clear hi)) | (go_at_call 11; (with_reducible refine (glyf_Is.calls false 0 0 1 0 t203 _ A18.out).mono ?_); rintro e w28 ⟨rfl, hb⟩; have n0_ := Aside0.mk (Kd.R_below (by (with_reducible repeat (first | apply Kd.R_alloc | apply Kd.R_drewN | apply Kd.R_drew)); exact HO185.out) hb); have n1_ := Aside0.mk (Kd.R_below (by (with_reducible repeat (first | apply Kd.R_alloc | apply Kd.R_drewN | apply Kd.R_drew)); exact HO192.out) hb); have n2_ := Aside0.mk (Kd.R_below (by (with_reducible repeat (first | apply Kd.R_alloc | apply Kd.R_drewN | apply Kd.R_drew)); exact HO196.out) hb); have n3_ := Aside0.mk (below_step (by repeat (first | (with_reducible first | exact HB.out | apply below_alloc | apply pw_below_drewN | apply below_drew1) | exact HB.out)) hb); clear HO185; clear HO192; clear HO196; clear HB; have HO185 := n0_; have HO192 := n1_; have HO196 := n2_; have HB := n3_; clear n0_ n1_ n2_ n3_; (try clear hb); (try clear hb2); (try clear hk); (try clear hi)))
                        go_ret
                        exact ⟨by first | rfl | (simp [errW_none, errW_some] <;> rfl) | (simp [*, errW_none, errW_some] <;> rfl), by repeat (first | (with_reducible first | exact HB.out | apply below_alloc | apply pw_below_drewN | apply below_drew1) | exact HB.out)⟩
                      · replace c17 := Bool.eq_false_iff.mpr c17
                        subst c17
                        have H1 : (some false) = some r := by rw [if_neg (show ¬ (false = true) by decide)] at H; exact H
                        clear H
                        have H := H1
                        clear H1
                        obtain rfl := Option.some.inj H
                        go_enter Try.func13, Try.ntmps13
                        go_wp2_with (first | ((with_reducible refine gate_dst (N := 14) rfl ?_); (try (refine gate_guard (by rfl) ?_; dsimp only)); refine Kd.R_lit k30 _ 30 ?hg (N := 14) ?hd (xs := ([(⟨true, 1, (-2), 300, 400⟩ : S30), (⟨false, 0, 0, 0, 0⟩ : S30)] : List (S30))) (inner := [.bool true, .int .i64 1, .int .i64 (-2), .int .i64 300, .int .i64 400, .bool false, .int .i64 0, .int .i64 0, .int .i64 0, .int .i64 0]) (ok := fun _ => True) (okp := fun _ => True) ?hr ?hp (fun _ hk => hk) trivial (Below.refl _ _) (Nat.le_refl _) (by simp) ?_; (case hd => rfl); (case hg => rfl); (case hr => first | (go_simp; done) | (go_simp; rfl)); (case hp => exact (Reps.c5 (show Kd.M k30 _ _ _ (⟨true, 1, (-2), 300, 400⟩ : S30) [.bool true, .int .i64 1, .int .i64 (-2), .int .i64 300, .int .i64 400] from (k30_mkM _ _ _ (⟨true, 1, (-2), 300, 400⟩ : S30) )) (Reps.c5 (show Kd.M k30 _ _ _ (⟨false, 0, 0, 0, 0⟩ : S30) [.bool false, .int .i64 0, .int .i64 0, .int .i64 0, .int .i64 0] from (k30_mkM _ _ _ (⟨false, 0, 0, 0, 0⟩ : S30) )) (Reps.none _ _)))); intro v184 w29 ho30 hb hg_ hnew_; clear hg_ hnew_; (first | rw [← Ny183.out] at ho30 | (simp only [Int.reduceToNat] at ho30; rw [← Ny183.out] at ho30)); have n0_ := Aside0.mk (Kd.R_lower ho30 (below_size (by repeat (first | (with_reducible first | exact HB.out | apply below_alloc | apply pw_below_drewN | apply below_drew1) | exact HB.out)))); have n1_ := Aside0.mk (below_step (by repeat (first | (with_reducible first | exact HB.out | apply below_alloc | apply pw_below_drewN | apply below_drew1) | exact HB.out)) hb); clear HB; have HO185 := n0_; have HB := n1_; clear n0_ n1_; clear hb ho30; obtain ⟨Ao31, co31, eo31⟩ := Kd.R_slice HO185.out; subst eo31) | ((with_reducible refine gate_callee (f := 9) rfl ?_); refine goesL_ (some 17) rfl rfl Try.func9 (by kernel_rfl) rfl #[.slice Ao31 y183.length co31, .bool false] rfl (by (try simp only [List.map_toArray, List.map_cons, List.map_nil]); first | done | rfl | (simp only [List.length_drop, List.length_take]; rfl)) ?_; (with_reducible refine (glyf_Put.calls _ _ y183 false t186 t187 t188 _ ?side1 ?side2 A1.out).mono ?_); (case side1 => repeat (first | exact (Kd.R_reads' HO185.out).2.2 | (with_reducible refine Kd.C_alloc ?_ _) | (with_reducible refine Kd.C_drewN ?_ _) | (with_reducible refine Kd.C_drew ?_))); (case side2 => exact (Kd.R_reads' HO185.out).2.1); rintro e w32 ⟨rfl, hb⟩; refine ⟨_, rfl, ?_⟩; have n0_ := Aside0.mk (Kd.R_below (by (with_reducible repeat (first | apply Kd.R_alloc | apply Kd.R_drewN | apply Kd.R_drew)); exact HO185.out) hb); have n1_ := Aside0.mk (below_step (by repeat (first | (with_reducible first | exact HB.out | apply below_alloc | apply pw_below_drewN | apply below_drew1) | exact HB.out)) hb); clear HO185; clear HB; have HO185 := n0_; have HB := n1_; clear n0_ n1_; (try clear hb); (try clear hb2); (try clear hk); (try clear hi)) | ((with_reducible refine gate_callee (f := 7) rfl ?_); refine goesL_ (some 24) rfl rfl Try.func7 (by kernel_rfl) rfl #[.string t186, .string t187, .int .i64 2, .bool false] rfl (by (try simp only [List.map_toArray, List.map_cons, List.map_nil]); first | done | rfl | (simp only [List.length_drop, List.length_take]; rfl)) ?_; (with_reducible refine (glyf_Get.calls t186 t187 2 false t189 t190 _ A2.out).mono ?_); rintro e w33 ⟨v191, rfl, ho0, hb⟩; refine ⟨_, rfl, ?_⟩; have n0_ := Aside0.mk (Kd.R_elder' (by (with_reducible repeat (first | apply Kd.R_alloc | apply Kd.R_drewN | apply Kd.R_drew)); exact HO185.out) (Kd.R_base ho0) hb); have n1_ := Aside0.mk (Kd.R_lower (Kd.R_new' ho0 (Kd.R_lt (by (with_reducible repeat (first | apply Kd.R_alloc | apply Kd.R_drewN | apply Kd.R_drew)); exact HO185.out))) (below_size (by repeat (first | (with_reducible first | exact HB.out | apply below_alloc | apply pw_below_drewN | apply below_drew1) | exact HB.out)))); have n2_ := Aside0.mk (below_step (by repeat (first | (with_reducible first | exact HB.out | apply below_alloc | apply pw_below_drewN | apply below_drew1) | exact HB.out)) hb); clear HO185; clear HB; have HO185 := n0_; have HO192 := n1_; have HB := n2_; clear n0_ n1_ n2_; (try clear hb); (try clear hb2); (try clear hk); (try clear hi); (try clear ho0)) | ((with_reducible refine gate_callee (f := 7) rfl ?_); refine goesL_ (some 30) rfl rfl Try.func7 (by kernel_rfl) rfl #[.string t186, .string t187, .int .i64 3, .bool false] rfl (by (try simp only [List.map_toArray, List.map_cons, List.map_nil]); first | done | rfl | (simp only [List.length_drop, List.length_take]; rfl)) ?_; (with_reducible refine (glyf_Get.calls t186 t187 3 false t193 t194 _ A3.out).mono ?_); rintro e w34 ⟨v195, rfl, ho0, hb⟩; refine ⟨_, rfl, ?_⟩; have n0_ := Aside0.mk (Kd.R_elder' (by (with_reducible repeat (first | apply Kd.R_alloc | apply Kd.R_drewN | apply Kd.R_drew)); exact HO185.out) (Kd.R_base ho0) hb); have n1_ := Aside0.mk (Kd.R_elder' (by (with_reducible repeat (first | apply Kd.R_alloc | apply Kd.R_drewN | apply Kd.R_drew)); exact HO192.out) (Kd.R_base ho0) hb); have n2_ := Aside0.mk (Kd.R_lower (Kd.R_new' (Kd.R_new' ho0 (Kd.R_lt (by (with_reducible repeat (first | apply Kd.R_alloc | apply Kd.R_drewN | apply Kd.R_drew)); exact HO185.out))) (Kd.R_lt (by (with_reducible repeat (first | apply Kd.R_alloc | apply Kd.R_drewN | apply Kd.R_drew)); exact HO192.out))) (below_size (by repeat (first | (with_reducible first | exact HB.out | apply below_alloc | apply pw_below_drewN | apply below_drew1) | exact HB.out)))); have n3_ := Aside0.mk (below_step (by repeat (first | (with_reducible first | exact HB.out | apply below_alloc | apply pw_below_drewN | apply below_drew1) | exact HB.out)) hb); clear HO185; clear HO192; clear HB; have HO185 := n0_; have HO192 := n1_; have HO196 := n2_; have HB := n3_; clear n0_ n1_ n2_ n3_; (try clear hb); (try clear hb2); (try clear hk); (try clear hi); (try clear ho0)) | ((with_reducible refine gate_callee (f := 15) rfl ?_); refine goesL_ (some 36) rfl rfl Try.func15 (by kernel_rfl) rfl #[.agg #[.int .i64 1000, .int .i64 2, .int .i64 1, .int .i64 800, .int .i64 (-200), .bool false], .slice Ao31 y183.length co31, .int .i64 0] rfl (by (try simp only [List.map_toArray, List.map_cons, List.map_nil]); first | done | rfl | (simp only [List.length_drop, List.length_take]; rfl)) ?_; (with_reducible refine (glyf_High.calls k 1000 2 1 800 (-200) false _ _ y183 0 t197 t198 t199 _ ?side1 ?side2 A4.out).mono ?_); (case side1 => repeat (first | exact (Kd.R_reads' HO185.out).2.2 | (with_reducible refine Kd.C_alloc ?_ _) | (with_reducible refine Kd.C_drewN ?_ _) | (with_reducible refine Kd.C_drew ?_))); (case side2 => exact (Kd.R_reads' HO185.out).2.1); rintro e w35 ⟨rfl, hb⟩; refine ⟨_, rfl, ?_⟩; have n0_ := Aside0.mk (Kd.R_below (by (with_reducible repeat (first | apply Kd.R_alloc | apply Kd.R_drewN | apply Kd.R_drew)); exact HO185.out) hb); have n1_ := Aside0.mk (Kd.R_below (by (with_reducible repeat (first | apply Kd.R_alloc | apply Kd.R_drewN | apply Kd.R_drew)); exact HO192.out) hb); have n2_ := Aside0.mk (Kd.R_below (by (with_reducible repeat (first | apply Kd.R_alloc | apply Kd.R_drewN | apply Kd.R_drew)); exact HO196.out) hb); have n3_ := Aside0.mk (below_step (by repeat (first | (with_reducible first | exact HB.out | apply below_alloc | apply pw_below_drewN | apply below_drew1) | exact HB.out)) hb); clear HO185; clear HO192; clear HO196; clear HB; have HO185 := n0_; have HO192 := n1_; have HO196 := n2_; have HB := n3_; clear n0_ n1_ n2_ n3_; (try clear hb); (try clear hb2); (try clear hk); (try clear hi); obtain ⟨Ao36, co36, eo36⟩ := Kd.R_slice HO192.out; subst eo36) | (go_at_call 14; (with_reducible refine (vinculumref07_Same.calls k _ _ y183 _ _ t189 true _ ?side1 ?side2 ?side3 ?side4 A9.out).mono ?_); (case side1 => repeat (first | exact (Kd.R_reads' HO185.out).2.2 | (with_reducible refine Kd.C_alloc ?_ _) | (with_reducible refine Kd.C_drewN ?_ _) | (with_reducible refine Kd.C_drew ?_))); (case side2 => exact (Kd.R_reads' HO185.out).2.1); (case side3 => repeat (first | exact (Kd.R_reads' HO192.out).2.2 | (with_reducible refine Kd.C_alloc ?_ _) | (with_reducible refine Kd.C_drewN ?_ _) | (with_reducible refine Kd.C_drew ?_))); (case side4 => exact (Kd.R_reads' HO192.out).2.1); rintro e w' ⟨rfl, ⟨nd, rfl⟩⟩; have p201 : 0 ≤ (1 : Int) := (by omega); have q201 : 1 < (y183.length : Int) := of_decide_eq_true (by first | (with_reducible assumption) | assumption); obtain ⟨ad201, e201, hx201_0, hx201_1, hx201_2, hx201_3, hx201_4⟩ := at_T30 (Kd.R_reads' HO185.out).2.2 1 p201 q201; cases e201; (try simp only [show (1 : Int).toNat = 1 from rfl, Nat.reduceMul, Nat.reduceEqDiff, Go.Addr.add, ↓reduceIte] at hx201_0); (try simp only [show (1 : Int).toNat = 1 from rfl, Nat.reduceMul, Nat.reduceEqDiff, Go.Addr.add, ↓reduceIte] at hx201_1); (try simp only [show (1 : Int).toNat = 1 from rfl, Nat.reduceMul, Nat.reduceEqDiff, Go.Addr.add, ↓reduceIte] at hx201_2); (try simp only [show (1 : Int).toNat = 1 from rfl, Nat.reduceMul, Nat.reduceEqDiff, Go.Addr.add, ↓reduceIte] at hx201_3); (try simp only [show (1 : Int).toNat = 1 from rfl, Nat.reduceMul, Nat.reduceEqDiff, Go.Addr.add, ↓reduceIte] at hx201_4); have qi201 : (1 < y183.length) = True := eq_true (by omega); (try rw [show ((1 : Int)).toNat = 1 from rfl] at hx201_0); (try rw [show 1 * 5 = 5 from rfl] at hx201_0); (try rw [show ((1 : Int)).toNat = 1 from rfl] at hx201_1); (try rw [show 1 * 5 = 5 from rfl] at hx201_1); (try rw [show ((1 : Int)).toNat = 1 from rfl] at hx201_2); (try rw [show 1 * 5 = 5 from rfl] at hx201_2); (try rw [show ((1 : Int)).toNat = 1 from rfl] at hx201_3); (try rw [show 1 * 5 = 5 from rfl] at hx201_3); (try rw [show ((1 : Int)).toNat = 1 from rfl] at hx201_4); (try rw [show 1 * 5 = 5 from rfl] at hx201_4); replace p201 := eq_true p201; replace q201 := eq_true q201) | (go_at_call 11; (with_reducible refine (glyf_Is.calls ((rd_T30 y183 1).f0) ((rd_T30 y183 1).f1) ((rd_T30 y183 1).f2) ((rd_T30 y183 1).f3) ((rd_T30 y183 1).f4) false _ A16.out).mono ?_); rintro e w37 ⟨rfl, hb⟩; have n0_ := Aside0.mk (Kd.R_below (by (with_reducible repeat (first | apply Kd.R_alloc | apply Kd.R_drewN | apply Kd.R_drew)); exact HO185.out) hb); have n1_ := Aside0.mk (Kd.R_below (by (with_reducible repeat (first | apply Kd.R_alloc | apply Kd.R_drewN | apply Kd.R_drew)); exact HO192.out) hb); have n2_ := Aside0.mk (Kd.R_below (by (with_reducible repeat (first | apply Kd.R_alloc | apply Kd.R_drewN | apply Kd.R_drew)); exact HO196.out) hb); have n3_ := Aside0.mk (below_step (by repeat (first | (with_reducible first | exact HB.out | apply below_alloc | apply pw_below_drewN | apply below_drew1) | exact HB.out)) hb); clear HO185; clear HO192; clear HO196; clear HB; have HO185 := n0_; have HO192 := n1_; have HO196 := n2_; have HB := n3_; clear n0_ n1_ n2_ n3_; (try clear hb); (try clear hb2); (try clear hk); (try clear hi)))
                        go_ret
                        exact ⟨by first | rfl | (simp [errW_none, errW_some] <;> rfl) | (simp [*, errW_none, errW_some] <;> rfl), by repeat (first | (with_reducible first | exact HB.out | apply below_alloc | apply pw_below_drewN | apply below_drew1) | exact HB.out)⟩
                    · rw [if_neg c15] at H
                      exact absurd H (by simp)
                  · rw [if_neg c14] at H
                    have c14b0 : (t198 == 2) = false := beq_eq_false_iff_ne.mpr c14
                    have c14b1 : (t198 != 2) = true := bne_iff_ne.mpr c14
                    obtain rfl := Option.some.inj H
                    go_enter Try.func13, Try.ntmps13
                    go_wp2_with (first | ((with_reducible refine gate_dst (N := 14) rfl ?_); (try (refine gate_guard (by rfl) ?_; dsimp only)); refine Kd.R_lit k30 _ 30 ?hg (N := 14) ?hd (xs := ([(⟨true, 1, (-2), 300, 400⟩ : S30), (⟨false, 0, 0, 0, 0⟩ : S30)] : List (S30))) (inner := [.bool true, .int .i64 1, .int .i64 (-2), .int .i64 300, .int .i64 400, .bool false, .int .i64 0, .int .i64 0, .int .i64 0, .int .i64 0]) (ok := fun _ => True) (okp := fun _ => True) ?hr ?hp (fun _ hk => hk) trivial (Below.refl _ _) (Nat.le_refl _) (by simp) ?_; (case hd => rfl); (case hg => rfl); (case hr => first | (go_simp; done) | (go_simp; rfl)); (case hp => exact (Reps.c5 (show Kd.M k30 _ _ _ (⟨true, 1, (-2), 300, 400⟩ : S30) [.bool true, .int .i64 1, .int .i64 (-2), .int .i64 300, .int .i64 400] from (k30_mkM _ _ _ (⟨true, 1, (-2), 300, 400⟩ : S30) )) (Reps.c5 (show Kd.M k30 _ _ _ (⟨false, 0, 0, 0, 0⟩ : S30) [.bool false, .int .i64 0, .int .i64 0, .int .i64 0, .int .i64 0] from (k30_mkM _ _ _ (⟨false, 0, 0, 0, 0⟩ : S30) )) (Reps.none _ _)))); intro v184 w38 ho39 hb hg_ hnew_; clear hg_ hnew_; (first | rw [← Ny183.out] at ho39 | (simp only [Int.reduceToNat] at ho39; rw [← Ny183.out] at ho39)); have n0_ := Aside0.mk (Kd.R_lower ho39 (below_size (by repeat (first | (with_reducible first | exact HB.out | apply below_alloc | apply pw_below_drewN | apply below_drew1) | exact HB.out)))); have n1_ := Aside0.mk (below_step (by repeat (first | (with_reducible first | exact HB.out | apply below_alloc | apply pw_below_drewN | apply below_drew1) | exact HB.out)) hb); clear HB; have HO185 := n0_; have HB := n1_; clear n0_ n1_; clear hb ho39; obtain ⟨Ao40, co40, eo40⟩ := Kd.R_slice HO185.out; subst eo40) | ((with_reducible refine gate_callee (f := 9) rfl ?_); refine goesL_ (some 17) rfl rfl Try.func9 (by kernel_rfl) rfl #[.slice Ao40 y183.length co40, .bool false] rfl (by (try simp only [List.map_toArray, List.map_cons, List.map_nil]); first | done | rfl | (simp only [List.length_drop, List.length_take]; rfl)) ?_; (with_reducible refine (glyf_Put.calls _ _ y183 false t186 t187 t188 _ ?side1 ?side2 A1.out).mono ?_); (case side1 => repeat (first | exact (Kd.R_reads' HO185.out).2.2 | (with_reducible refine Kd.C_alloc ?_ _) | (with_reducible refine Kd.C_drewN ?_ _) | (with_reducible refine Kd.C_drew ?_))); (case side2 => exact (Kd.R_reads' HO185.out).2.1); rintro e w41 ⟨rfl, hb⟩; refine ⟨_, rfl, ?_⟩; have n0_ := Aside0.mk (Kd.R_below (by (with_reducible repeat (first | apply Kd.R_alloc | apply Kd.R_drewN | apply Kd.R_drew)); exact HO185.out) hb); have n1_ := Aside0.mk (below_step (by repeat (first | (with_reducible first | exact HB.out | apply below_alloc | apply pw_below_drewN | apply below_drew1) | exact HB.out)) hb); clear HO185; clear HB; have HO185 := n0_; have HB := n1_; clear n0_ n1_; (try clear hb); (try clear hb2); (try clear hk); (try clear hi)) | ((with_reducible refine gate_callee (f := 7) rfl ?_); refine goesL_ (some 24) rfl rfl Try.func7 (by kernel_rfl) rfl #[.string t186, .string t187, .int .i64 2, .bool false] rfl (by (try simp only [List.map_toArray, List.map_cons, List.map_nil]); first | done | rfl | (simp only [List.length_drop, List.length_take]; rfl)) ?_; (with_reducible refine (glyf_Get.calls t186 t187 2 false t189 t190 _ A2.out).mono ?_); rintro e w42 ⟨v191, rfl, ho0, hb⟩; refine ⟨_, rfl, ?_⟩; have n0_ := Aside0.mk (Kd.R_elder' (by (with_reducible repeat (first | apply Kd.R_alloc | apply Kd.R_drewN | apply Kd.R_drew)); exact HO185.out) (Kd.R_base ho0) hb); have n1_ := Aside0.mk (Kd.R_lower (Kd.R_new' ho0 (Kd.R_lt (by (with_reducible repeat (first | apply Kd.R_alloc | apply Kd.R_drewN | apply Kd.R_drew)); exact HO185.out))) (below_size (by repeat (first | (with_reducible first | exact HB.out | apply below_alloc | apply pw_below_drewN | apply below_drew1) | exact HB.out)))); have n2_ := Aside0.mk (below_step (by repeat (first | (with_reducible first | exact HB.out | apply below_alloc | apply pw_below_drewN | apply below_drew1) | exact HB.out)) hb); clear HO185; clear HB; have HO185 := n0_; have HO192 := n1_; have HB := n2_; clear n0_ n1_ n2_; (try clear hb); (try clear hb2); (try clear hk); (try clear hi); (try clear ho0)) | ((with_reducible refine gate_callee (f := 7) rfl ?_); refine goesL_ (some 30) rfl rfl Try.func7 (by kernel_rfl) rfl #[.string t186, .string t187, .int .i64 3, .bool false] rfl (by (try simp only [List.map_toArray, List.map_cons, List.map_nil]); first | done | rfl | (simp only [List.length_drop, List.length_take]; rfl)) ?_; (with_reducible refine (glyf_Get.calls t186 t187 3 false t193 t194 _ A3.out).mono ?_); rintro e w43 ⟨v195, rfl, ho0, hb⟩; refine ⟨_, rfl, ?_⟩; have n0_ := Aside0.mk (Kd.R_elder' (by (with_reducible repeat (first | apply Kd.R_alloc | apply Kd.R_drewN | apply Kd.R_drew)); exact HO185.out) (Kd.R_base ho0) hb); have n1_ := Aside0.mk (Kd.R_elder' (by (with_reducible repeat (first | apply Kd.R_alloc | apply Kd.R_drewN | apply Kd.R_drew)); exact HO192.out) (Kd.R_base ho0) hb); have n2_ := Aside0.mk (Kd.R_lower (Kd.R_new' (Kd.R_new' ho0 (Kd.R_lt (by (with_reducible repeat (first | apply Kd.R_alloc | apply Kd.R_drewN | apply Kd.R_drew)); exact HO185.out))) (Kd.R_lt (by (with_reducible repeat (first | apply Kd.R_alloc | apply Kd.R_drewN | apply Kd.R_drew)); exact HO192.out))) (below_size (by repeat (first | (with_reducible first | exact HB.out | apply below_alloc | apply pw_below_drewN | apply below_drew1) | exact HB.out)))); have n3_ := Aside0.mk (below_step (by repeat (first | (with_reducible first | exact HB.out | apply below_alloc | apply pw_below_drewN | apply below_drew1) | exact HB.out)) hb); clear HO185; clear HO192; clear HB; have HO185 := n0_; have HO192 := n1_; have HO196 := n2_; have HB := n3_; clear n0_ n1_ n2_ n3_; (try clear hb); (try clear hb2); (try clear hk); (try clear hi); (try clear ho0)) | ((with_reducible refine gate_callee (f := 15) rfl ?_); refine goesL_ (some 36) rfl rfl Try.func15 (by kernel_rfl) rfl #[.agg #[.int .i64 1000, .int .i64 2, .int .i64 1, .int .i64 800, .int .i64 (-200), .bool false], .slice Ao40 y183.length co40, .int .i64 0] rfl (by (try simp only [List.map_toArray, List.map_cons, List.map_nil]); first | done | rfl | (simp only [List.length_drop, List.length_take]; rfl)) ?_; (with_reducible refine (glyf_High.calls k 1000 2 1 800 (-200) false _ _ y183 0 t197 t198 t199 _ ?side1 ?side2 A4.out).mono ?_); (case side1 => repeat (first | exact (Kd.R_reads' HO185.out).2.2 | (with_reducible refine Kd.C_alloc ?_ _) | (with_reducible refine Kd.C_drewN ?_ _) | (with_reducible refine Kd.C_drew ?_))); (case side2 => exact (Kd.R_reads' HO185.out).2.1); rintro e w44 ⟨rfl, hb⟩; refine ⟨_, rfl, ?_⟩; have n0_ := Aside0.mk (Kd.R_below (by (with_reducible repeat (first | apply Kd.R_alloc | apply Kd.R_drewN | apply Kd.R_drew)); exact HO185.out) hb); have n1_ := Aside0.mk (Kd.R_below (by (with_reducible repeat (first | apply Kd.R_alloc | apply Kd.R_drewN | apply Kd.R_drew)); exact HO192.out) hb); have n2_ := Aside0.mk (Kd.R_below (by (with_reducible repeat (first | apply Kd.R_alloc | apply Kd.R_drewN | apply Kd.R_drew)); exact HO196.out) hb); have n3_ := Aside0.mk (below_step (by repeat (first | (with_reducible first | exact HB.out | apply below_alloc | apply pw_below_drewN | apply below_drew1) | exact HB.out)) hb); clear HO185; clear HO192; clear HO196; clear HB; have HO185 := n0_; have HO192 := n1_; have HO196 := n2_; have HB := n3_; clear n0_ n1_ n2_ n3_; (try clear hb); (try clear hb2); (try clear hk); (try clear hi); obtain ⟨Ao45, co45, eo45⟩ := Kd.R_slice HO192.out; subst eo45) | (go_at_call 14; (with_reducible refine (vinculumref07_Same.calls k _ _ y183 _ _ t189 true _ ?side1 ?side2 ?side3 ?side4 A9.out).mono ?_); (case side1 => repeat (first | exact (Kd.R_reads' HO185.out).2.2 | (with_reducible refine Kd.C_alloc ?_ _) | (with_reducible refine Kd.C_drewN ?_ _) | (with_reducible refine Kd.C_drew ?_))); (case side2 => exact (Kd.R_reads' HO185.out).2.1); (case side3 => repeat (first | exact (Kd.R_reads' HO192.out).2.2 | (with_reducible refine Kd.C_alloc ?_ _) | (with_reducible refine Kd.C_drewN ?_ _) | (with_reducible refine Kd.C_drew ?_))); (case side4 => exact (Kd.R_reads' HO192.out).2.1); rintro e w' ⟨rfl, ⟨nd, rfl⟩⟩))
                    go_ret
                    exact ⟨by first | rfl | (simp [errW_none, errW_some] <;> rfl) | (simp [*, errW_none, errW_some] <;> rfl), by repeat (first | (with_reducible first | exact HB.out | apply below_alloc | apply pw_below_drewN | apply below_drew1) | exact HB.out)⟩
                · rw [if_neg c13] at H
                  have c13b0 : (t197 == 400) = false := beq_eq_false_iff_ne.mpr c13
                  have c13b1 : (t197 != 400) = true := bne_iff_ne.mpr c13
                  obtain rfl := Option.some.inj H
                  go_enter Try.func13, Try.ntmps13
                  go_wp2_with (first | ((with_reducible refine gate_dst (N := 14) rfl ?_); (try (refine gate_guard (by rfl) ?_; dsimp only)); refine Kd.R_lit k30 _ 30 ?hg (N := 14) ?hd (xs := ([(⟨true, 1, (-2), 300, 400⟩ : S30), (⟨false, 0, 0, 0, 0⟩ : S30)] : List (S30))) (inner := [.bool true, .int .i64 1, .int .i64 (-2), .int .i64 300, .int .i64 400, .bool false, .int .i64 0, .int .i64 0, .int .i64 0, .int .i64 0]) (ok := fun _ => True) (okp := fun _ => True) ?hr ?hp (fun _ hk => hk) trivial (Below.refl _ _) (Nat.le_refl _) (by simp) ?_; (case hd => rfl); (case hg => rfl); (case hr => first | (go_simp; done) | (go_simp; rfl)); (case hp => exact (Reps.c5 (show Kd.M k30 _ _ _ (⟨true, 1, (-2), 300, 400⟩ : S30) [.bool true, .int .i64 1, .int .i64 (-2), .int .i64 300, .int .i64 400] from (k30_mkM _ _ _ (⟨true, 1, (-2), 300, 400⟩ : S30) )) (Reps.c5 (show Kd.M k30 _ _ _ (⟨false, 0, 0, 0, 0⟩ : S30) [.bool false, .int .i64 0, .int .i64 0, .int .i64 0, .int .i64 0] from (k30_mkM _ _ _ (⟨false, 0, 0, 0, 0⟩ : S30) )) (Reps.none _ _)))); intro v184 w46 ho47 hb hg_ hnew_; clear hg_ hnew_; (first | rw [← Ny183.out] at ho47 | (simp only [Int.reduceToNat] at ho47; rw [← Ny183.out] at ho47)); have n0_ := Aside0.mk (Kd.R_lower ho47 (below_size (by repeat (first | (with_reducible first | exact HB.out | apply below_alloc | apply pw_below_drewN | apply below_drew1) | exact HB.out)))); have n1_ := Aside0.mk (below_step (by repeat (first | (with_reducible first | exact HB.out | apply below_alloc | apply pw_below_drewN | apply below_drew1) | exact HB.out)) hb); clear HB; have HO185 := n0_; have HB := n1_; clear n0_ n1_; clear hb ho47; obtain ⟨Ao48, co48, eo48⟩ := Kd.R_slice HO185.out; subst eo48) | ((with_reducible refine gate_callee (f := 9) rfl ?_); refine goesL_ (some 17) rfl rfl Try.func9 (by kernel_rfl) rfl #[.slice Ao48 y183.length co48, .bool false] rfl (by (try simp only [List.map_toArray, List.map_cons, List.map_nil]); first | done | rfl | (simp only [List.length_drop, List.length_take]; rfl)) ?_; (with_reducible refine (glyf_Put.calls _ _ y183 false t186 t187 t188 _ ?side1 ?side2 A1.out).mono ?_); (case side1 => repeat (first | exact (Kd.R_reads' HO185.out).2.2 | (with_reducible refine Kd.C_alloc ?_ _) | (with_reducible refine Kd.C_drewN ?_ _) | (with_reducible refine Kd.C_drew ?_))); (case side2 => exact (Kd.R_reads' HO185.out).2.1); rintro e w49 ⟨rfl, hb⟩; refine ⟨_, rfl, ?_⟩; have n0_ := Aside0.mk (Kd.R_below (by (with_reducible repeat (first | apply Kd.R_alloc | apply Kd.R_drewN | apply Kd.R_drew)); exact HO185.out) hb); have n1_ := Aside0.mk (below_step (by repeat (first | (with_reducible first | exact HB.out | apply below_alloc | apply pw_below_drewN | apply below_drew1) | exact HB.out)) hb); clear HO185; clear HB; have HO185 := n0_; have HB := n1_; clear n0_ n1_; (try clear hb); (try clear hb2); (try clear hk); (try clear hi)) | ((with_reducible refine gate_callee (f := 7) rfl ?_); refine goesL_ (some 24) rfl rfl Try.func7 (by kernel_rfl) rfl #[.string t186, .string t187, .int .i64 2, .bool false] rfl (by (try simp only [List.map_toArray, List.map_cons, List.map_nil]); first | done | rfl | (simp only [List.length_drop, List.length_take]; rfl)) ?_; (with_reducible refine (glyf_Get.calls t186 t187 2 false t189 t190 _ A2.out).mono ?_); rintro e w50 ⟨v191, rfl, ho0, hb⟩; refine ⟨_, rfl, ?_⟩; have n0_ := Aside0.mk (Kd.R_elder' (by (with_reducible repeat (first | apply Kd.R_alloc | apply Kd.R_drewN | apply Kd.R_drew)); exact HO185.out) (Kd.R_base ho0) hb); have n1_ := Aside0.mk (Kd.R_lower (Kd.R_new' ho0 (Kd.R_lt (by (with_reducible repeat (first | apply Kd.R_alloc | apply Kd.R_drewN | apply Kd.R_drew)); exact HO185.out))) (below_size (by repeat (first | (with_reducible first | exact HB.out | apply below_alloc | apply pw_below_drewN | apply below_drew1) | exact HB.out)))); have n2_ := Aside0.mk (below_step (by repeat (first | (with_reducible first | exact HB.out | apply below_alloc | apply pw_below_drewN | apply below_drew1) | exact HB.out)) hb); clear HO185; clear HB; have HO185 := n0_; have HO192 := n1_; have HB := n2_; clear n0_ n1_ n2_; (try clear hb); (try clear hb2); (try clear hk); (try clear hi); (try clear ho0)) | ((with_reducible refine gate_callee (f := 7) rfl ?_); refine goesL_ (some 30) rfl rfl Try.func7 (by kernel_rfl) rfl #[.string t186, .string t187, .int .i64 3, .bool false] rfl (by (try simp only [List.map_toArray, List.map_cons, List.map_nil]); first | done | rfl | (simp only [List.length_drop, List.length_take]; rfl)) ?_; (with_reducible refine (glyf_Get.calls t186 t187 3 false t193 t194 _ A3.out).mono ?_); rintro e w51 ⟨v195, rfl, ho0, hb⟩; refine ⟨_, rfl, ?_⟩; have n0_ := Aside0.mk (Kd.R_elder' (by (with_reducible repeat (first | apply Kd.R_alloc | apply Kd.R_drewN | apply Kd.R_drew)); exact HO185.out) (Kd.R_base ho0) hb); have n1_ := Aside0.mk (Kd.R_elder' (by (with_reducible repeat (first | apply Kd.R_alloc | apply Kd.R_drewN | apply Kd.R_drew)); exact HO192.out) (Kd.R_base ho0) hb); have n2_ := Aside0.mk (Kd.R_lower (Kd.R_new' (Kd.R_new' ho0 (Kd.R_lt (by (with_reducible repeat (first | apply Kd.R_alloc | apply Kd.R_drewN | apply Kd.R_drew)); exact HO185.out))) (Kd.R_lt (by (with_reducible repeat (first | apply Kd.R_alloc | apply Kd.R_drewN | apply Kd.R_drew)); exact HO192.out))) (below_size (by repeat (first | (with_reducible first | exact HB.out | apply below_alloc | apply pw_below_drewN | apply below_drew1) | exact HB.out)))); have n3_ := Aside0.mk (below_step (by repeat (first | (with_reducible first | exact HB.out | apply below_alloc | apply pw_below_drewN | apply below_drew1) | exact HB.out)) hb); clear HO185; clear HO192; clear HB; have HO185 := n0_; have HO192 := n1_; have HO196 := n2_; have HB := n3_; clear n0_ n1_ n2_ n3_; (try clear hb); (try clear hb2); (try clear hk); (try clear hi); (try clear ho0)) | ((with_reducible refine gate_callee (f := 15) rfl ?_); refine goesL_ (some 36) rfl rfl Try.func15 (by kernel_rfl) rfl #[.agg #[.int .i64 1000, .int .i64 2, .int .i64 1, .int .i64 800, .int .i64 (-200), .bool false], .slice Ao48 y183.length co48, .int .i64 0] rfl (by (try simp only [List.map_toArray, List.map_cons, List.map_nil]); first | done | rfl | (simp only [List.length_drop, List.length_take]; rfl)) ?_; (with_reducible refine (glyf_High.calls k 1000 2 1 800 (-200) false _ _ y183 0 t197 t198 t199 _ ?side1 ?side2 A4.out).mono ?_); (case side1 => repeat (first | exact (Kd.R_reads' HO185.out).2.2 | (with_reducible refine Kd.C_alloc ?_ _) | (with_reducible refine Kd.C_drewN ?_ _) | (with_reducible refine Kd.C_drew ?_))); (case side2 => exact (Kd.R_reads' HO185.out).2.1); rintro e w52 ⟨rfl, hb⟩; refine ⟨_, rfl, ?_⟩; have n0_ := Aside0.mk (Kd.R_below (by (with_reducible repeat (first | apply Kd.R_alloc | apply Kd.R_drewN | apply Kd.R_drew)); exact HO185.out) hb); have n1_ := Aside0.mk (Kd.R_below (by (with_reducible repeat (first | apply Kd.R_alloc | apply Kd.R_drewN | apply Kd.R_drew)); exact HO192.out) hb); have n2_ := Aside0.mk (Kd.R_below (by (with_reducible repeat (first | apply Kd.R_alloc | apply Kd.R_drewN | apply Kd.R_drew)); exact HO196.out) hb); have n3_ := Aside0.mk (below_step (by repeat (first | (with_reducible first | exact HB.out | apply below_alloc | apply pw_below_drewN | apply below_drew1) | exact HB.out)) hb); clear HO185; clear HO192; clear HO196; clear HB; have HO185 := n0_; have HO192 := n1_; have HO196 := n2_; have HB := n3_; clear n0_ n1_ n2_ n3_; (try clear hb); (try clear hb2); (try clear hk); (try clear hi); obtain ⟨Ao53, co53, eo53⟩ := Kd.R_slice HO192.out; subst eo53) | (go_at_call 14; (with_reducible refine (vinculumref07_Same.calls k _ _ y183 _ _ t189 true _ ?side1 ?side2 ?side3 ?side4 A9.out).mono ?_); (case side1 => repeat (first | exact (Kd.R_reads' HO185.out).2.2 | (with_reducible refine Kd.C_alloc ?_ _) | (with_reducible refine Kd.C_drewN ?_ _) | (with_reducible refine Kd.C_drew ?_))); (case side2 => exact (Kd.R_reads' HO185.out).2.1); (case side3 => repeat (first | exact (Kd.R_reads' HO192.out).2.2 | (with_reducible refine Kd.C_alloc ?_ _) | (with_reducible refine Kd.C_drewN ?_ _) | (with_reducible refine Kd.C_drew ?_))); (case side4 => exact (Kd.R_reads' HO192.out).2.1); rintro e w' ⟨rfl, ⟨nd, rfl⟩⟩))
                  go_ret
                  exact ⟨by first | rfl | (simp [errW_none, errW_some] <;> rfl) | (simp [*, errW_none, errW_some] <;> rfl), by repeat (first | (with_reducible first | exact HB.out | apply below_alloc | apply pw_below_drewN | apply below_drew1) | exact HB.out)⟩
              · rw [if_neg c12] at H
                have c12b0 : (t199 == t188) = false := beq_eq_false_iff_ne.mpr c12
                have c12b1 : (t199 != t188) = true := bne_iff_ne.mpr c12
                obtain rfl := Option.some.inj H
                go_enter Try.func13, Try.ntmps13
                go_wp2_with (first | ((with_reducible refine gate_dst (N := 14) rfl ?_); (try (refine gate_guard (by rfl) ?_; dsimp only)); refine Kd.R_lit k30 _ 30 ?hg (N := 14) ?hd (xs := ([(⟨true, 1, (-2), 300, 400⟩ : S30), (⟨false, 0, 0, 0, 0⟩ : S30)] : List (S30))) (inner := [.bool true, .int .i64 1, .int .i64 (-2), .int .i64 300, .int .i64 400, .bool false, .int .i64 0, .int .i64 0, .int .i64 0, .int .i64 0]) (ok := fun _ => True) (okp := fun _ => True) ?hr ?hp (fun _ hk => hk) trivial (Below.refl _ _) (Nat.le_refl _) (by simp) ?_; (case hd => rfl); (case hg => rfl); (case hr => first | (go_simp; done) | (go_simp; rfl)); (case hp => exact (Reps.c5 (show Kd.M k30 _ _ _ (⟨true, 1, (-2), 300, 400⟩ : S30) [.bool true, .int .i64 1, .int .i64 (-2), .int .i64 300, .int .i64 400] from (k30_mkM _ _ _ (⟨true, 1, (-2), 300, 400⟩ : S30) )) (Reps.c5 (show Kd.M k30 _ _ _ (⟨false, 0, 0, 0, 0⟩ : S30) [.bool false, .int .i64 0, .int .i64 0, .int .i64 0, .int .i64 0] from (k30_mkM _ _ _ (⟨false, 0, 0, 0, 0⟩ : S30) )) (Reps.none _ _)))); intro v184 w54 ho55 hb hg_ hnew_; clear hg_ hnew_; (first | rw [← Ny183.out] at ho55 | (simp only [Int.reduceToNat] at ho55; rw [← Ny183.out] at ho55)); have n0_ := Aside0.mk (Kd.R_lower ho55 (below_size (by repeat (first | (with_reducible first | exact HB.out | apply below_alloc | apply pw_below_drewN | apply below_drew1) | exact HB.out)))); have n1_ := Aside0.mk (below_step (by repeat (first | (with_reducible first | exact HB.out | apply below_alloc | apply pw_below_drewN | apply below_drew1) | exact HB.out)) hb); clear HB; have HO185 := n0_; have HB := n1_; clear n0_ n1_; clear hb ho55; obtain ⟨Ao56, co56, eo56⟩ := Kd.R_slice HO185.out; subst eo56) | ((with_reducible refine gate_callee (f := 9) rfl ?_); refine goesL_ (some 17) rfl rfl Try.func9 (by kernel_rfl) rfl #[.slice Ao56 y183.length co56, .bool false] rfl (by (try simp only [List.map_toArray, List.map_cons, List.map_nil]); first | done | rfl | (simp only [List.length_drop, List.length_take]; rfl)) ?_; (with_reducible refine (glyf_Put.calls _ _ y183 false t186 t187 t188 _ ?side1 ?side2 A1.out).mono ?_); (case side1 => repeat (first | exact (Kd.R_reads' HO185.out).2.2 | (with_reducible refine Kd.C_alloc ?_ _) | (with_reducible refine Kd.C_drewN ?_ _) | (with_reducible refine Kd.C_drew ?_))); (case side2 => exact (Kd.R_reads' HO185.out).2.1); rintro e w57 ⟨rfl, hb⟩; refine ⟨_, rfl, ?_⟩; have n0_ := Aside0.mk (Kd.R_below (by (with_reducible repeat (first | apply Kd.R_alloc | apply Kd.R_drewN | apply Kd.R_drew)); exact HO185.out) hb); have n1_ := Aside0.mk (below_step (by repeat (first | (with_reducible first | exact HB.out | apply below_alloc | apply pw_below_drewN | apply below_drew1) | exact HB.out)) hb); clear HO185; clear HB; have HO185 := n0_; have HB := n1_; clear n0_ n1_; (try clear hb); (try clear hb2); (try clear hk); (try clear hi)) | ((with_reducible refine gate_callee (f := 7) rfl ?_); refine goesL_ (some 24) rfl rfl Try.func7 (by kernel_rfl) rfl #[.string t186, .string t187, .int .i64 2, .bool false] rfl (by (try simp only [List.map_toArray, List.map_cons, List.map_nil]); first | done | rfl | (simp only [List.length_drop, List.length_take]; rfl)) ?_; (with_reducible refine (glyf_Get.calls t186 t187 2 false t189 t190 _ A2.out).mono ?_); rintro e w58 ⟨v191, rfl, ho0, hb⟩; refine ⟨_, rfl, ?_⟩; have n0_ := Aside0.mk (Kd.R_elder' (by (with_reducible repeat (first | apply Kd.R_alloc | apply Kd.R_drewN | apply Kd.R_drew)); exact HO185.out) (Kd.R_base ho0) hb); have n1_ := Aside0.mk (Kd.R_lower (Kd.R_new' ho0 (Kd.R_lt (by (with_reducible repeat (first | apply Kd.R_alloc | apply Kd.R_drewN | apply Kd.R_drew)); exact HO185.out))) (below_size (by repeat (first | (with_reducible first | exact HB.out | apply below_alloc | apply pw_below_drewN | apply below_drew1) | exact HB.out)))); have n2_ := Aside0.mk (below_step (by repeat (first | (with_reducible first | exact HB.out | apply below_alloc | apply pw_below_drewN | apply below_drew1) | exact HB.out)) hb); clear HO185; clear HB; have HO185 := n0_; have HO192 := n1_; have HB := n2_; clear n0_ n1_ n2_; (try clear hb); (try clear hb2); (try clear hk); (try clear hi); (try clear ho0)) | ((with_reducible refine gate_callee (f := 7) rfl ?_); refine goesL_ (some 30) rfl rfl Try.func7 (by kernel_rfl) rfl #[.string t186, .string t187, .int .i64 3, .bool false] rfl (by (try simp only [List.map_toArray, List.map_cons, List.map_nil]); first | done | rfl | (simp only [List.length_drop, List.length_take]; rfl)) ?_; (with_reducible refine (glyf_Get.calls t186 t187 3 false t193 t194 _ A3.out).mono ?_); rintro e w59 ⟨v195, rfl, ho0, hb⟩; refine ⟨_, rfl, ?_⟩; have n0_ := Aside0.mk (Kd.R_elder' (by (with_reducible repeat (first | apply Kd.R_alloc | apply Kd.R_drewN | apply Kd.R_drew)); exact HO185.out) (Kd.R_base ho0) hb); have n1_ := Aside0.mk (Kd.R_elder' (by (with_reducible repeat (first | apply Kd.R_alloc | apply Kd.R_drewN | apply Kd.R_drew)); exact HO192.out) (Kd.R_base ho0) hb); have n2_ := Aside0.mk (Kd.R_lower (Kd.R_new' (Kd.R_new' ho0 (Kd.R_lt (by (with_reducible repeat (first | apply Kd.R_alloc | apply Kd.R_drewN | apply Kd.R_drew)); exact HO185.out))) (Kd.R_lt (by (with_reducible repeat (first | apply Kd.R_alloc | apply Kd.R_drewN | apply Kd.R_drew)); exact HO192.out))) (below_size (by repeat (first | (with_reducible first | exact HB.out | apply below_alloc | apply pw_below_drewN | apply below_drew1) | exact HB.out)))); have n3_ := Aside0.mk (below_step (by repeat (first | (with_reducible first | exact HB.out | apply below_alloc | apply pw_below_drewN | apply below_drew1) | exact HB.out)) hb); clear HO185; clear HO192; clear HB; have HO185 := n0_; have HO192 := n1_; have HO196 := n2_; have HB := n3_; clear n0_ n1_ n2_ n3_; (try clear hb); (try clear hb2); (try clear hk); (try clear hi); (try clear ho0)) | ((with_reducible refine gate_callee (f := 15) rfl ?_); refine goesL_ (some 36) rfl rfl Try.func15 (by kernel_rfl) rfl #[.agg #[.int .i64 1000, .int .i64 2, .int .i64 1, .int .i64 800, .int .i64 (-200), .bool false], .slice Ao56 y183.length co56, .int .i64 0] rfl (by (try simp only [List.map_toArray, List.map_cons, List.map_nil]); first | done | rfl | (simp only [List.length_drop, List.length_take]; rfl)) ?_; (with_reducible refine (glyf_High.calls k 1000 2 1 800 (-200) false _ _ y183 0 t197 t198 t199 _ ?side1 ?side2 A4.out).mono ?_); (case side1 => repeat (first | exact (Kd.R_reads' HO185.out).2.2 | (with_reducible refine Kd.C_alloc ?_ _) | (with_reducible refine Kd.C_drewN ?_ _) | (with_reducible refine Kd.C_drew ?_))); (case side2 => exact (Kd.R_reads' HO185.out).2.1); rintro e w60 ⟨rfl, hb⟩; refine ⟨_, rfl, ?_⟩; have n0_ := Aside0.mk (Kd.R_below (by (with_reducible repeat (first | apply Kd.R_alloc | apply Kd.R_drewN | apply Kd.R_drew)); exact HO185.out) hb); have n1_ := Aside0.mk (Kd.R_below (by (with_reducible repeat (first | apply Kd.R_alloc | apply Kd.R_drewN | apply Kd.R_drew)); exact HO192.out) hb); have n2_ := Aside0.mk (Kd.R_below (by (with_reducible repeat (first | apply Kd.R_alloc | apply Kd.R_drewN | apply Kd.R_drew)); exact HO196.out) hb); have n3_ := Aside0.mk (below_step (by repeat (first | (with_reducible first | exact HB.out | apply below_alloc | apply pw_below_drewN | apply below_drew1) | exact HB.out)) hb); clear HO185; clear HO192; clear HO196; clear HB; have HO185 := n0_; have HO192 := n1_; have HO196 := n2_; have HB := n3_; clear n0_ n1_ n2_ n3_; (try clear hb); (try clear hb2); (try clear hk); (try clear hi); obtain ⟨Ao61, co61, eo61⟩ := Kd.R_slice HO192.out; subst eo61) | (go_at_call 14; (with_reducible refine (vinculumref07_Same.calls k _ _ y183 _ _ t189 true _ ?side1 ?side2 ?side3 ?side4 A9.out).mono ?_); (case side1 => repeat (first | exact (Kd.R_reads' HO185.out).2.2 | (with_reducible refine Kd.C_alloc ?_ _) | (with_reducible refine Kd.C_drewN ?_ _) | (with_reducible refine Kd.C_drew ?_))); (case side2 => exact (Kd.R_reads' HO185.out).2.1); (case side3 => repeat (first | exact (Kd.R_reads' HO192.out).2.2 | (with_reducible refine Kd.C_alloc ?_ _) | (with_reducible refine Kd.C_drewN ?_ _) | (with_reducible refine Kd.C_drew ?_))); (case side4 => exact (Kd.R_reads' HO192.out).2.1); rintro e w' ⟨rfl, ⟨nd, rfl⟩⟩))
                go_ret
                exact ⟨by first | rfl | (simp [errW_none, errW_some] <;> rfl) | (simp [*, errW_none, errW_some] <;> rfl), by repeat (first | (with_reducible first | exact HB.out | apply below_alloc | apply pw_below_drewN | apply below_drew1) | exact HB.out)⟩
            · rw [if_neg c11] at H
              have c11b0 : (t194 == 4) = false := beq_eq_false_iff_ne.mpr c11
              have c11b1 : (t194 != 4) = true := bne_iff_ne.mpr c11
              obtain rfl := Option.some.inj H
              go_enter Try.func13, Try.ntmps13
              go_wp2_with (first | ((with_reducible refine gate_dst (N := 14) rfl ?_); (try (refine gate_guard (by rfl) ?_; dsimp only)); refine Kd.R_lit k30 _ 30 ?hg (N := 14) ?hd (xs := ([(⟨true, 1, (-2), 300, 400⟩ : S30), (⟨false, 0, 0, 0, 0⟩ : S30)] : List (S30))) (inner := [.bool true, .int .i64 1, .int .i64 (-2), .int .i64 300, .int .i64 400, .bool false, .int .i64 0, .int .i64 0, .int .i64 0, .int .i64 0]) (ok := fun _ => True) (okp := fun _ => True) ?hr ?hp (fun _ hk => hk) trivial (Below.refl _ _) (Nat.le_refl _) (by simp) ?_; (case hd => rfl); (case hg => rfl); (case hr => first | (go_simp; done) | (go_simp; rfl)); (case hp => exact (Reps.c5 (show Kd.M k30 _ _ _ (⟨true, 1, (-2), 300, 400⟩ : S30) [.bool true, .int .i64 1, .int .i64 (-2), .int .i64 300, .int .i64 400] from (k30_mkM _ _ _ (⟨true, 1, (-2), 300, 400⟩ : S30) )) (Reps.c5 (show Kd.M k30 _ _ _ (⟨false, 0, 0, 0, 0⟩ : S30) [.bool false, .int .i64 0, .int .i64 0, .int .i64 0, .int .i64 0] from (k30_mkM _ _ _ (⟨false, 0, 0, 0, 0⟩ : S30) )) (Reps.none _ _)))); intro v184 w62 ho63 hb hg_ hnew_; clear hg_ hnew_; (first | rw [← Ny183.out] at ho63 | (simp only [Int.reduceToNat] at ho63; rw [← Ny183.out] at ho63)); have n0_ := Aside0.mk (Kd.R_lower ho63 (below_size (by repeat (first | (with_reducible first | exact HB.out | apply below_alloc | apply pw_below_drewN | apply below_drew1) | exact HB.out)))); have n1_ := Aside0.mk (below_step (by repeat (first | (with_reducible first | exact HB.out | apply below_alloc | apply pw_below_drewN | apply below_drew1) | exact HB.out)) hb); clear HB; have HO185 := n0_; have HB := n1_; clear n0_ n1_; clear hb ho63; obtain ⟨Ao64, co64, eo64⟩ := Kd.R_slice HO185.out; subst eo64) | ((with_reducible refine gate_callee (f := 9) rfl ?_); refine goesL_ (some 17) rfl rfl Try.func9 (by kernel_rfl) rfl #[.slice Ao64 y183.length co64, .bool false] rfl (by (try simp only [List.map_toArray, List.map_cons, List.map_nil]); first | done | rfl | (simp only [List.length_drop, List.length_take]; rfl)) ?_; (with_reducible refine (glyf_Put.calls _ _ y183 false t186 t187 t188 _ ?side1 ?side2 A1.out).mono ?_); (case side1 => repeat (first | exact (Kd.R_reads' HO185.out).2.2 | (with_reducible refine Kd.C_alloc ?_ _) | (with_reducible refine Kd.C_drewN ?_ _) | (with_reducible refine Kd.C_drew ?_))); (case side2 => exact (Kd.R_reads' HO185.out).2.1); rintro e w65 ⟨rfl, hb⟩; refine ⟨_, rfl, ?_⟩; have n0_ := Aside0.mk (Kd.R_below (by (with_reducible repeat (first | apply Kd.R_alloc | apply Kd.R_drewN | apply Kd.R_drew)); exact HO185.out) hb); have n1_ := Aside0.mk (below_step (by repeat (first | (with_reducible first | exact HB.out | apply below_alloc | apply pw_below_drewN | apply below_drew1) | exact HB.out)) hb); clear HO185; clear HB; have HO185 := n0_; have HB := n1_; clear n0_ n1_; (try clear hb); (try clear hb2); (try clear hk); (try clear hi)) | ((with_reducible refine gate_callee (f := 7) rfl ?_); refine goesL_ (some 24) rfl rfl Try.func7 (by kernel_rfl) rfl #[.string t186, .string t187, .int .i64 2, .bool false] rfl (by (try simp only [List.map_toArray, List.map_cons, List.map_nil]); first | done | rfl | (simp only [List.length_drop, List.length_take]; rfl)) ?_; (with_reducible refine (glyf_Get.calls t186 t187 2 false t189 t190 _ A2.out).mono ?_); rintro e w66 ⟨v191, rfl, ho0, hb⟩; refine ⟨_, rfl, ?_⟩; have n0_ := Aside0.mk (Kd.R_elder' (by (with_reducible repeat (first | apply Kd.R_alloc | apply Kd.R_drewN | apply Kd.R_drew)); exact HO185.out) (Kd.R_base ho0) hb); have n1_ := Aside0.mk (Kd.R_lower (Kd.R_new' ho0 (Kd.R_lt (by (with_reducible repeat (first | apply Kd.R_alloc | apply Kd.R_drewN | apply Kd.R_drew)); exact HO185.out))) (below_size (by repeat (first | (with_reducible first | exact HB.out | apply below_alloc | apply pw_below_drewN | apply below_drew1) | exact HB.out)))); have n2_ := Aside0.mk (below_step (by repeat (first | (with_reducible first | exact HB.out | apply below_alloc | apply pw_below_drewN | apply below_drew1) | exact HB.out)) hb); clear HO185; clear HB; have HO185 := n0_; have HO192 := n1_; have HB := n2_; clear n0_ n1_ n2_; (try clear hb); (try clear hb2); (try clear hk); (try clear hi); (try clear ho0)) | ((with_reducible refine gate_callee (f := 7) rfl ?_); refine goesL_ (some 30) rfl rfl Try.func7 (by kernel_rfl) rfl #[.string t186, .string t187, .int .i64 3, .bool false] rfl (by (try simp only [List.map_toArray, List.map_cons, List.map_nil]); first | done | rfl | (simp only [List.length_drop, List.length_take]; rfl)) ?_; (with_reducible refine (glyf_Get.calls t186 t187 3 false t193 t194 _ A3.out).mono ?_); rintro e w67 ⟨v195, rfl, ho0, hb⟩; refine ⟨_, rfl, ?_⟩; have n0_ := Aside0.mk (Kd.R_elder' (by (with_reducible repeat (first | apply Kd.R_alloc | apply Kd.R_drewN | apply Kd.R_drew)); exact HO185.out) (Kd.R_base ho0) hb); have n1_ := Aside0.mk (Kd.R_elder' (by (with_reducible repeat (first | apply Kd.R_alloc | apply Kd.R_drewN | apply Kd.R_drew)); exact HO192.out) (Kd.R_base ho0) hb); have n2_ := Aside0.mk (Kd.R_lower (Kd.R_new' (Kd.R_new' ho0 (Kd.R_lt (by (with_reducible repeat (first | apply Kd.R_alloc | apply Kd.R_drewN | apply Kd.R_drew)); exact HO185.out))) (Kd.R_lt (by (with_reducible repeat (first | apply Kd.R_alloc | apply Kd.R_drewN | apply Kd.R_drew)); exact HO192.out))) (below_size (by repeat (first | (with_reducible first | exact HB.out | apply below_alloc | apply pw_below_drewN | apply below_drew1) | exact HB.out)))); have n3_ := Aside0.mk (below_step (by repeat (first | (with_reducible first | exact HB.out | apply below_alloc | apply pw_below_drewN | apply below_drew1) | exact HB.out)) hb); clear HO185; clear HO192; clear HB; have HO185 := n0_; have HO192 := n1_; have HO196 := n2_; have HB := n3_; clear n0_ n1_ n2_ n3_; (try clear hb); (try clear hb2); (try clear hk); (try clear hi); (try clear ho0)) | ((with_reducible refine gate_callee (f := 15) rfl ?_); refine goesL_ (some 36) rfl rfl Try.func15 (by kernel_rfl) rfl #[.agg #[.int .i64 1000, .int .i64 2, .int .i64 1, .int .i64 800, .int .i64 (-200), .bool false], .slice Ao64 y183.length co64, .int .i64 0] rfl (by (try simp only [List.map_toArray, List.map_cons, List.map_nil]); first | done | rfl | (simp only [List.length_drop, List.length_take]; rfl)) ?_; (with_reducible refine (glyf_High.calls k 1000 2 1 800 (-200) false _ _ y183 0 t197 t198 t199 _ ?side1 ?side2 A4.out).mono ?_); (case side1 => repeat (first | exact (Kd.R_reads' HO185.out).2.2 | (with_reducible refine Kd.C_alloc ?_ _) | (with_reducible refine Kd.C_drewN ?_ _) | (with_reducible refine Kd.C_drew ?_))); (case side2 => exact (Kd.R_reads' HO185.out).2.1); rintro e w68 ⟨rfl, hb⟩; refine ⟨_, rfl, ?_⟩; have n0_ := Aside0.mk (Kd.R_below (by (with_reducible repeat (first | apply Kd.R_alloc | apply Kd.R_drewN | apply Kd.R_drew)); exact HO185.out) hb); have n1_ := Aside0.mk (Kd.R_below (by (with_reducible repeat (first | apply Kd.R_alloc | apply Kd.R_drewN | apply Kd.R_drew)); exact HO192.out) hb); have n2_ := Aside0.mk (Kd.R_below (by (with_reducible repeat (first | apply Kd.R_alloc | apply Kd.R_drewN | apply Kd.R_drew)); exact HO196.out) hb); have n3_ := Aside0.mk (below_step (by repeat (first | (with_reducible first | exact HB.out | apply below_alloc | apply pw_below_drewN | apply below_drew1) | exact HB.out)) hb); clear HO185; clear HO192; clear HO196; clear HB; have HO185 := n0_; have HO192 := n1_; have HO196 := n2_; have HB := n3_; clear n0_ n1_ n2_ n3_; (try clear hb); (try clear hb2); (try clear hk); (try clear hi); obtain ⟨Ao69, co69, eo69⟩ := Kd.R_slice HO192.out; subst eo69) | (go_at_call 14; (with_reducible refine (vinculumref07_Same.calls k _ _ y183 _ _ t189 true _ ?side1 ?side2 ?side3 ?side4 A9.out).mono ?_); (case side1 => repeat (first | exact (Kd.R_reads' HO185.out).2.2 | (with_reducible refine Kd.C_alloc ?_ _) | (with_reducible refine Kd.C_drewN ?_ _) | (with_reducible refine Kd.C_drew ?_))); (case side2 => exact (Kd.R_reads' HO185.out).2.1); (case side3 => repeat (first | exact (Kd.R_reads' HO192.out).2.2 | (with_reducible refine Kd.C_alloc ?_ _) | (with_reducible refine Kd.C_drewN ?_ _) | (with_reducible refine Kd.C_drew ?_))); (case side4 => exact (Kd.R_reads' HO192.out).2.1); rintro e w' ⟨rfl, ⟨nd, rfl⟩⟩))
              go_ret
              exact ⟨by first | rfl | (simp [errW_none, errW_some] <;> rfl) | (simp [*, errW_none, errW_some] <;> rfl), by repeat (first | (with_reducible first | exact HB.out | apply below_alloc | apply pw_below_drewN | apply below_drew1) | exact HB.out)⟩
          · replace c10 := Bool.eq_false_iff.mpr c10
            subst c10
            have H1 : (some false) = some r := by rw [if_neg (show ¬ (false = true) by decide)] at H; exact H
            clear H
            have H := H1
            clear H1
            obtain rfl := Option.some.inj H
            go_enter Try.func13, Try.ntmps13
            go_wp2_with (first | ((with_reducible refine gate_dst (N := 14) rfl ?_); (try (refine gate_guard (by rfl) ?_; dsimp only)); refine Kd.R_lit k30 _ 30 ?hg (N := 14) ?hd (xs := ([(⟨true, 1, (-2), 300, 400⟩ : S30), (⟨false, 0, 0, 0, 0⟩ : S30)] : List (S30))) (inner := [.bool true, .int .i64 1, .int .i64 (-2), .int .i64 300, .int .i64 400, .bool false, .int .i64 0, .int .i64 0, .int .i64 0, .int .i64 0]) (ok := fun _ => True) (okp := fun _ => True) ?hr ?hp (fun _ hk => hk) trivial (Below.refl _ _) (Nat.le_refl _) (by simp) ?_; (case hd => rfl); (case hg => rfl); (case hr => first | (go_simp; done) | (go_simp; rfl)); (case hp => exact (Reps.c5 (show Kd.M k30 _ _ _ (⟨true, 1, (-2), 300, 400⟩ : S30) [.bool true, .int .i64 1, .int .i64 (-2), .int .i64 300, .int .i64 400] from (k30_mkM _ _ _ (⟨true, 1, (-2), 300, 400⟩ : S30) )) (Reps.c5 (show Kd.M k30 _ _ _ (⟨false, 0, 0, 0, 0⟩ : S30) [.bool false, .int .i64 0, .int .i64 0, .int .i64 0, .int .i64 0] from (k30_mkM _ _ _ (⟨false, 0, 0, 0, 0⟩ : S30) )) (Reps.none _ _)))); intro v184 w70 ho71 hb hg_ hnew_; clear hg_ hnew_; (first | rw [← Ny183.out] at ho71 | (simp only [Int.reduceToNat] at ho71; rw [← Ny183.out] at ho71)); have n0_ := Aside0.mk (Kd.R_lower ho71 (below_size (by repeat (first | (with_reducible first | exact HB.out | apply below_alloc | apply pw_below_drewN | apply below_drew1) | exact HB.out)))); have n1_ := Aside0.mk (below_step (by repeat (first | (with_reducible first | exact HB.out | apply below_alloc | apply pw_below_drewN | apply below_drew1) | exact HB.out)) hb); clear HB; have HO185 := n0_; have HB := n1_; clear n0_ n1_; clear hb ho71; obtain ⟨Ao72, co72, eo72⟩ := Kd.R_slice HO185.out; subst eo72) | ((with_reducible refine gate_callee (f := 9) rfl ?_); refine goesL_ (some 17) rfl rfl Try.func9 (by kernel_rfl) rfl #[.slice Ao72 y183.length co72, .bool false] rfl (by (try simp only [List.map_toArray, List.map_cons, List.map_nil]); first | done | rfl | (simp only [List.length_drop, List.length_take]; rfl)) ?_; (with_reducible refine (glyf_Put.calls _ _ y183 false t186 t187 t188 _ ?side1 ?side2 A1.out).mono ?_); (case side1 => repeat (first | exact (Kd.R_reads' HO185.out).2.2 | (with_reducible refine Kd.C_alloc ?_ _) | (with_reducible refine Kd.C_drewN ?_ _) | (with_reducible refine Kd.C_drew ?_))); (case side2 => exact (Kd.R_reads' HO185.out).2.1); rintro e w73 ⟨rfl, hb⟩; refine ⟨_, rfl, ?_⟩; have n0_ := Aside0.mk (Kd.R_below (by (with_reducible repeat (first | apply Kd.R_alloc | apply Kd.R_drewN | apply Kd.R_drew)); exact HO185.out) hb); have n1_ := Aside0.mk (below_step (by repeat (first | (with_reducible first | exact HB.out | apply below_alloc | apply pw_below_drewN | apply below_drew1) | exact HB.out)) hb); clear HO185; clear HB; have HO185 := n0_; have HB := n1_; clear n0_ n1_; (try clear hb); (try clear hb2); (try clear hk); (try clear hi)) | ((with_reducible refine gate_callee (f := 7) rfl ?_); refine goesL_ (some 24) rfl rfl Try.func7 (by kernel_rfl) rfl #[.string t186, .string t187, .int .i64 2, .bool false] rfl (by (try simp only [List.map_toArray, List.map_cons, List.map_nil]); first | done | rfl | (simp only [List.length_drop, List.length_take]; rfl)) ?_; (with_reducible refine (glyf_Get.calls t186 t187 2 false t189 t190 _ A2.out).mono ?_); rintro e w74 ⟨v191, rfl, ho0, hb⟩; refine ⟨_, rfl, ?_⟩; have n0_ := Aside0.mk (Kd.R_elder' (by (with_reducible repeat (first | apply Kd.R_alloc | apply Kd.R_drewN | apply Kd.R_drew)); exact HO185.out) (Kd.R_base ho0) hb); have n1_ := Aside0.mk (Kd.R_lower (Kd.R_new' ho0 (Kd.R_lt (by (with_reducible repeat (first | apply Kd.R_alloc | apply Kd.R_drewN | apply Kd.R_drew)); exact HO185.out))) (below_size (by repeat (first | (with_reducible first | exact HB.out | apply below_alloc | apply pw_below_drewN | apply below_drew1) | exact HB.out)))); have n2_ := Aside0.mk (below_step (by repeat (first | (with_reducible first | exact HB.out | apply below_alloc | apply pw_below_drewN | apply below_drew1) | exact HB.out)) hb); clear HO185; clear HB; have HO185 := n0_; have HO192 := n1_; have HB := n2_; clear n0_ n1_ n2_; (try clear hb); (try clear hb2); (try clear hk); (try clear hi); (try clear ho0)) | ((with_reducible refine gate_callee (f := 7) rfl ?_); refine goesL_ (some 30) rfl rfl Try.func7 (by kernel_rfl) rfl #[.string t186, .string t187, .int .i64 3, .bool false] rfl (by (try simp only [List.map_toArray, List.map_cons, List.map_nil]); first | done | rfl | (simp only [List.length_drop, List.length_take]; rfl)) ?_; (with_reducible refine (glyf_Get.calls t186 t187 3 false t193 t194 _ A3.out).mono ?_); rintro e w75 ⟨v195, rfl, ho0, hb⟩; refine ⟨_, rfl, ?_⟩; have n0_ := Aside0.mk (Kd.R_elder' (by (with_reducible repeat (first | apply Kd.R_alloc | apply Kd.R_drewN | apply Kd.R_drew)); exact HO185.out) (Kd.R_base ho0) hb); have n1_ := Aside0.mk (Kd.R_elder' (by (with_reducible repeat (first | apply Kd.R_alloc | apply Kd.R_drewN | apply Kd.R_drew)); exact HO192.out) (Kd.R_base ho0) hb); have n2_ := Aside0.mk (Kd.R_lower (Kd.R_new' (Kd.R_new' ho0 (Kd.R_lt (by (with_reducible repeat (first | apply Kd.R_alloc | apply Kd.R_drewN | apply Kd.R_drew)); exact HO185.out))) (Kd.R_lt (by (with_reducible repeat (first | apply Kd.R_alloc | apply Kd.R_drewN | apply Kd.R_drew)); exact HO192.out))) (below_size (by repeat (first | (with_reducible first | exact HB.out | apply below_alloc | apply pw_below_drewN | apply below_drew1) | exact HB.out)))); have n3_ := Aside0.mk (below_step (by repeat (first | (with_reducible first | exact HB.out | apply below_alloc | apply pw_below_drewN | apply below_drew1) | exact HB.out)) hb); clear HO185; clear HO192; clear HB; have HO185 := n0_; have HO192 := n1_; have HO196 := n2_; have HB := n3_; clear n0_ n1_ n2_ n3_; (try clear hb); (try clear hb2); (try clear hk); (try clear hi); (try clear ho0)) | ((with_reducible refine gate_callee (f := 15) rfl ?_); refine goesL_ (some 36) rfl rfl Try.func15 (by kernel_rfl) rfl #[.agg #[.int .i64 1000, .int .i64 2, .int .i64 1, .int .i64 800, .int .i64 (-200), .bool false], .slice Ao72 y183.length co72, .int .i64 0] rfl (by (try simp only [List.map_toArray, List.map_cons, List.map_nil]); first | done | rfl | (simp only [List.length_drop, List.length_take]; rfl)) ?_; (with_reducible refine (glyf_High.calls k 1000 2 1 800 (-200) false _ _ y183 0 t197 t198 t199 _ ?side1 ?side2 A4.out).mono ?_); (case side1 => repeat (first | exact (Kd.R_reads' HO185.out).2.2 | (with_reducible refine Kd.C_alloc ?_ _) | (with_reducible refine Kd.C_drewN ?_ _) | (with_reducible refine Kd.C_drew ?_))); (case side2 => exact (Kd.R_reads' HO185.out).2.1); rintro e w76 ⟨rfl, hb⟩; refine ⟨_, rfl, ?_⟩; have n0_ := Aside0.mk (Kd.R_below (by (with_reducible repeat (first | apply Kd.R_alloc | apply Kd.R_drewN | apply Kd.R_drew)); exact HO185.out) hb); have n1_ := Aside0.mk (Kd.R_below (by (with_reducible repeat (first | apply Kd.R_alloc | apply Kd.R_drewN | apply Kd.R_drew)); exact HO192.out) hb); have n2_ := Aside0.mk (Kd.R_below (by (with_reducible repeat (first | apply Kd.R_alloc | apply Kd.R_drewN | apply Kd.R_drew)); exact HO196.out) hb); have n3_ := Aside0.mk (below_step (by repeat (first | (with_reducible first | exact HB.out | apply below_alloc | apply pw_below_drewN | apply below_drew1) | exact HB.out)) hb); clear HO185; clear HO192; clear HO196; clear HB; have HO185 := n0_; have HO192 := n1_; have HO196 := n2_; have HB := n3_; clear n0_ n1_ n2_ n3_; (try clear hb); (try clear hb2); (try clear hk); (try clear hi); obtain ⟨Ao77, co77, eo77⟩ := Kd.R_slice HO192.out; subst eo77) | (go_at_call 14; (with_reducible refine (vinculumref07_Same.calls k _ _ y183 _ _ t189 false _ ?side1 ?side2 ?side3 ?side4 A9.out).mono ?_); (case side1 => repeat (first | exact (Kd.R_reads' HO185.out).2.2 | (with_reducible refine Kd.C_alloc ?_ _) | (with_reducible refine Kd.C_drewN ?_ _) | (with_reducible refine Kd.C_drew ?_))); (case side2 => exact (Kd.R_reads' HO185.out).2.1); (case side3 => repeat (first | exact (Kd.R_reads' HO192.out).2.2 | (with_reducible refine Kd.C_alloc ?_ _) | (with_reducible refine Kd.C_drewN ?_ _) | (with_reducible refine Kd.C_drew ?_))); (case side4 => exact (Kd.R_reads' HO192.out).2.1); rintro e w' ⟨rfl, ⟨nd, rfl⟩⟩))
            go_ret
            exact ⟨by first | rfl | (simp [errW_none, errW_some] <;> rfl) | (simp [*, errW_none, errW_some] <;> rfl), by repeat (first | (with_reducible first | exact HB.out | apply below_alloc | apply pw_below_drewN | apply below_drew1) | exact HB.out)⟩
        · rw [if_neg c8] at H
          have c8b0 : (t190 == t188) = false := beq_eq_false_iff_ne.mpr c8
          have c8b1 : (t190 != t188) = true := bne_iff_ne.mpr c8
          obtain rfl := Option.some.inj H
          go_enter Try.func13, Try.ntmps13
          go_wp2_with (first | ((with_reducible refine gate_dst (N := 14) rfl ?_); (try (refine gate_guard (by rfl) ?_; dsimp only)); refine Kd.R_lit k30 _ 30 ?hg (N := 14) ?hd (xs := ([(⟨true, 1, (-2), 300, 400⟩ : S30), (⟨false, 0, 0, 0, 0⟩ : S30)] : List (S30))) (inner := [.bool true, .int .i64 1, .int .i64 (-2), .int .i64 300, .int .i64 400, .bool false, .int .i64 0, .int .i64 0, .int .i64 0, .int .i64 0]) (ok := fun _ => True) (okp := fun _ => True) ?hr ?hp (fun _ hk => hk) trivial (Below.refl _ _) (Nat.le_refl _) (by simp) ?_; (case hd => rfl); (case hg => rfl); (case hr => first | (go_simp; done) | (go_simp; rfl)); (case hp => exact (Reps.c5 (show Kd.M k30 _ _ _ (⟨true, 1, (-2), 300, 400⟩ : S30) [.bool true, .int .i64 1, .int .i64 (-2), .int .i64 300, .int .i64 400] from (k30_mkM _ _ _ (⟨true, 1, (-2), 300, 400⟩ : S30) )) (Reps.c5 (show Kd.M k30 _ _ _ (⟨false, 0, 0, 0, 0⟩ : S30) [.bool false, .int .i64 0, .int .i64 0, .int .i64 0, .int .i64 0] from (k30_mkM _ _ _ (⟨false, 0, 0, 0, 0⟩ : S30) )) (Reps.none _ _)))); intro v184 w78 ho79 hb hg_ hnew_; clear hg_ hnew_; (first | rw [← Ny183.out] at ho79 | (simp only [Int.reduceToNat] at ho79; rw [← Ny183.out] at ho79)); have n0_ := Aside0.mk (Kd.R_lower ho79 (below_size (by repeat (first | (with_reducible first | exact HB.out | apply below_alloc | apply pw_below_drewN | apply below_drew1) | exact HB.out)))); have n1_ := Aside0.mk (below_step (by repeat (first | (with_reducible first | exact HB.out | apply below_alloc | apply pw_below_drewN | apply below_drew1) | exact HB.out)) hb); clear HB; have HO185 := n0_; have HB := n1_; clear n0_ n1_; clear hb ho79; obtain ⟨Ao80, co80, eo80⟩ := Kd.R_slice HO185.out; subst eo80) | ((with_reducible refine gate_callee (f := 9) rfl ?_); refine goesL_ (some 17) rfl rfl Try.func9 (by kernel_rfl) rfl #[.slice Ao80 y183.length co80, .bool false] rfl (by (try simp only [List.map_toArray, List.map_cons, List.map_nil]); first | done | rfl | (simp only [List.length_drop, List.length_take]; rfl)) ?_; (with_reducible refine (glyf_Put.calls _ _ y183 false t186 t187 t188 _ ?side1 ?side2 A1.out).mono ?_); (case side1 => repeat (first | exact (Kd.R_reads' HO185.out).2.2 | (with_reducible refine Kd.C_alloc ?_ _) | (with_reducible refine Kd.C_drewN ?_ _) | (with_reducible refine Kd.C_drew ?_))); (case side2 => exact (Kd.R_reads' HO185.out).2.1); rintro e w81 ⟨rfl, hb⟩; refine ⟨_, rfl, ?_⟩; have n0_ := Aside0.mk (Kd.R_below (by (with_reducible repeat (first | apply Kd.R_alloc | apply Kd.R_drewN | apply Kd.R_drew)); exact HO185.out) hb); have n1_ := Aside0.mk (below_step (by repeat (first | (with_reducible first | exact HB.out | apply below_alloc | apply pw_below_drewN | apply below_drew1) | exact HB.out)) hb); clear HO185; clear HB; have HO185 := n0_; have HB := n1_; clear n0_ n1_; (try clear hb); (try clear hb2); (try clear hk); (try clear hi)) | ((with_reducible refine gate_callee (f := 7) rfl ?_); refine goesL_ (some 24) rfl rfl Try.func7 (by kernel_rfl) rfl #[.string t186, .string t187, .int .i64 2, .bool false] rfl (by (try simp only [List.map_toArray, List.map_cons, List.map_nil]); first | done | rfl | (simp only [List.length_drop, List.length_take]; rfl)) ?_; (with_reducible refine (glyf_Get.calls t186 t187 2 false t189 t190 _ A2.out).mono ?_); rintro e w82 ⟨v191, rfl, ho0, hb⟩; refine ⟨_, rfl, ?_⟩; have n0_ := Aside0.mk (Kd.R_elder' (by (with_reducible repeat (first | apply Kd.R_alloc | apply Kd.R_drewN | apply Kd.R_drew)); exact HO185.out) (Kd.R_base ho0) hb); have n1_ := Aside0.mk (Kd.R_lower (Kd.R_new' ho0 (Kd.R_lt (by (with_reducible repeat (first | apply Kd.R_alloc | apply Kd.R_drewN | apply Kd.R_drew)); exact HO185.out))) (below_size (by repeat (first | (with_reducible first | exact HB.out | apply below_alloc | apply pw_below_drewN | apply below_drew1) | exact HB.out)))); have n2_ := Aside0.mk (below_step (by repeat (first | (with_reducible first | exact HB.out | apply below_alloc | apply pw_below_drewN | apply below_drew1) | exact HB.out)) hb); clear HO185; clear HB; have HO185 := n0_; have HO192 := n1_; have HB := n2_; clear n0_ n1_ n2_; (try clear hb); (try clear hb2); (try clear hk); (try clear hi); (try clear ho0)) | ((with_reducible refine gate_callee (f := 7) rfl ?_); refine goesL_ (some 30) rfl rfl Try.func7 (by kernel_rfl) rfl #[.string t186, .string t187, .int .i64 3, .bool false] rfl (by (try simp only [List.map_toArray, List.map_cons, List.map_nil]); first | done | rfl | (simp only [List.length_drop, List.length_take]; rfl)) ?_; (with_reducible refine (glyf_Get.calls t186 t187 3 false t193 t194 _ A3.out).mono ?_); rintro e w83 ⟨v195, rfl, ho0, hb⟩; refine ⟨_, rfl, ?_⟩; have n0_ := Aside0.mk (Kd.R_elder' (by (with_reducible repeat (first | apply Kd.R_alloc | apply Kd.R_drewN | apply Kd.R_drew)); exact HO185.out) (Kd.R_base ho0) hb); have n1_ := Aside0.mk (Kd.R_elder' (by (with_reducible repeat (first | apply Kd.R_alloc | apply Kd.R_drewN | apply Kd.R_drew)); exact HO192.out) (Kd.R_base ho0) hb); have n2_ := Aside0.mk (Kd.R_lower (Kd.R_new' (Kd.R_new' ho0 (Kd.R_lt (by (with_reducible repeat (first | apply Kd.R_alloc | apply Kd.R_drewN | apply Kd.R_drew)); exact HO185.out))) (Kd.R_lt (by (with_reducible repeat (first | apply Kd.R_alloc | apply Kd.R_drewN | apply Kd.R_drew)); exact HO192.out))) (below_size (by repeat (first | (with_reducible first | exact HB.out | apply below_alloc | apply pw_below_drewN | apply below_drew1) | exact HB.out)))); have n3_ := Aside0.mk (below_step (by repeat (first | (with_reducible first | exact HB.out | apply below_alloc | apply pw_below_drewN | apply below_drew1) | exact HB.out)) hb); clear HO185; clear HO192; clear HB; have HO185 := n0_; have HO192 := n1_; have HO196 := n2_; have HB := n3_; clear n0_ n1_ n2_ n3_; (try clear hb); (try clear hb2); (try clear hk); (try clear hi); (try clear ho0)) | ((with_reducible refine gate_callee (f := 15) rfl ?_); refine goesL_ (some 36) rfl rfl Try.func15 (by kernel_rfl) rfl #[.agg #[.int .i64 1000, .int .i64 2, .int .i64 1, .int .i64 800, .int .i64 (-200), .bool false], .slice Ao80 y183.length co80, .int .i64 0] rfl (by (try simp only [List.map_toArray, List.map_cons, List.map_nil]); first | done | rfl | (simp only [List.length_drop, List.length_take]; rfl)) ?_; (with_reducible refine (glyf_High.calls k 1000 2 1 800 (-200) false _ _ y183 0 t197 t198 t199 _ ?side1 ?side2 A4.out).mono ?_); (case side1 => repeat (first | exact (Kd.R_reads' HO185.out).2.2 | (with_reducible refine Kd.C_alloc ?_ _) | (with_reducible refine Kd.C_drewN ?_ _) | (with_reducible refine Kd.C_drew ?_))); (case side2 => exact (Kd.R_reads' HO185.out).2.1); rintro e w84 ⟨rfl, hb⟩; refine ⟨_, rfl, ?_⟩; have n0_ := Aside0.mk (Kd.R_below (by (with_reducible repeat (first | apply Kd.R_alloc | apply Kd.R_drewN | apply Kd.R_drew)); exact HO185.out) hb); have n1_ := Aside0.mk (Kd.R_below (by (with_reducible repeat (first | apply Kd.R_alloc | apply Kd.R_drewN | apply Kd.R_drew)); exact HO192.out) hb); have n2_ := Aside0.mk (Kd.R_below (by (with_reducible repeat (first | apply Kd.R_alloc | apply Kd.R_drewN | apply Kd.R_drew)); exact HO196.out) hb); have n3_ := Aside0.mk (below_step (by repeat (first | (with_reducible first | exact HB.out | apply below_alloc | apply pw_below_drewN | apply below_drew1) | exact HB.out)) hb); clear HO185; clear HO192; clear HO196; clear HB; have HO185 := n0_; have HO192 := n1_; have HO196 := n2_; have HB := n3_; clear n0_ n1_ n2_ n3_; (try clear hb); (try clear hb2); (try clear hk); (try clear hi)))
          go_ret
          exact ⟨by first | rfl | (simp [errW_none, errW_some] <;> rfl) | (simp [*, errW_none, errW_some] <;> rfl), by repeat (first | (with_reducible first | exact HB.out | apply below_alloc | apply pw_below_drewN | apply below_drew1) | exact HB.out)⟩
      · rw [if_neg c7] at H
        have c7b0 : ((t187.size : Int) == 12) = false := beq_eq_false_iff_ne.mpr c7
        have c7b1 : ((t187.size : Int) != 12) = true := bne_iff_ne.mpr c7
        obtain rfl := Option.some.inj H
        go_enter Try.func13, Try.ntmps13
        go_wp2_with (first | ((with_reducible refine gate_dst (N := 14) rfl ?_); (try (refine gate_guard (by rfl) ?_; dsimp only)); refine Kd.R_lit k30 _ 30 ?hg (N := 14) ?hd (xs := ([(⟨true, 1, (-2), 300, 400⟩ : S30), (⟨false, 0, 0, 0, 0⟩ : S30)] : List (S30))) (inner := [.bool true, .int .i64 1, .int .i64 (-2), .int .i64 300, .int .i64 400, .bool false, .int .i64 0, .int .i64 0, .int .i64 0, .int .i64 0]) (ok := fun _ => True) (okp := fun _ => True) ?hr ?hp (fun _ hk => hk) trivial (Below.refl _ _) (Nat.le_refl _) (by simp) ?_; (case hd => rfl); (case hg => rfl); (case hr => first | (go_simp; done) | (go_simp; rfl)); (case hp => exact (Reps.c5 (show Kd.M k30 _ _ _ (⟨true, 1, (-2), 300, 400⟩ : S30) [.bool true, .int .i64 1, .int .i64 (-2), .int .i64 300, .int .i64 400] from (k30_mkM _ _ _ (⟨true, 1, (-2), 300, 400⟩ : S30) )) (Reps.c5 (show Kd.M k30 _ _ _ (⟨false, 0, 0, 0, 0⟩ : S30) [.bool false, .int .i64 0, .int .i64 0, .int .i64 0, .int .i64 0] from (k30_mkM _ _ _ (⟨false, 0, 0, 0, 0⟩ : S30) )) (Reps.none _ _)))); intro v184 w85 ho86 hb hg_ hnew_; clear hg_ hnew_; (first | rw [← Ny183.out] at ho86 | (simp only [Int.reduceToNat] at ho86; rw [← Ny183.out] at ho86)); have n0_ := Aside0.mk (Kd.R_lower ho86 (below_size (by repeat (first | (with_reducible first | exact HB.out | apply below_alloc | apply pw_below_drewN | apply below_drew1) | exact HB.out)))); have n1_ := Aside0.mk (below_step (by repeat (first | (with_reducible first | exact HB.out | apply below_alloc | apply pw_below_drewN | apply below_drew1) | exact HB.out)) hb); clear HB; have HO185 := n0_; have HB := n1_; clear n0_ n1_; clear hb ho86; obtain ⟨Ao87, co87, eo87⟩ := Kd.R_slice HO185.out; subst eo87) | ((with_reducible refine gate_callee (f := 9) rfl ?_); refine goesL_ (some 17) rfl rfl Try.func9 (by kernel_rfl) rfl #[.slice Ao87 y183.length co87, .bool false] rfl (by (try simp only [List.map_toArray, List.map_cons, List.map_nil]); first | done | rfl | (simp only [List.length_drop, List.length_take]; rfl)) ?_; (with_reducible refine (glyf_Put.calls _ _ y183 false t186 t187 t188 _ ?side1 ?side2 A1.out).mono ?_); (case side1 => repeat (first | exact (Kd.R_reads' HO185.out).2.2 | (with_reducible refine Kd.C_alloc ?_ _) | (with_reducible refine Kd.C_drewN ?_ _) | (with_reducible refine Kd.C_drew ?_))); (case side2 => exact (Kd.R_reads' HO185.out).2.1); rintro e w88 ⟨rfl, hb⟩; refine ⟨_, rfl, ?_⟩; have n0_ := Aside0.mk (Kd.R_below (by (with_reducible repeat (first | apply Kd.R_alloc | apply Kd.R_drewN | apply Kd.R_drew)); exact HO185.out) hb); have n1_ := Aside0.mk (below_step (by repeat (first | (with_reducible first | exact HB.out | apply below_alloc | apply pw_below_drewN | apply below_drew1) | exact HB.out)) hb); clear HO185; clear HB; have HO185 := n0_; have HB := n1_; clear n0_ n1_; (try clear hb); (try clear hb2); (try clear hk); (try clear hi)) | ((with_reducible refine gate_callee (f := 7) rfl ?_); refine goesL_ (some 24) rfl rfl Try.func7 (by kernel_rfl) rfl #[.string t186, .string t187, .int .i64 2, .bool false] rfl (by (try simp only [List.map_toArray, List.map_cons, List.map_nil]); first | done | rfl | (simp only [List.length_drop, List.length_take]; rfl)) ?_; (with_reducible refine (glyf_Get.calls t186 t187 2 false t189 t190 _ A2.out).mono ?_); rintro e w89 ⟨v191, rfl, ho0, hb⟩; refine ⟨_, rfl, ?_⟩; have n0_ := Aside0.mk (Kd.R_elder' (by (with_reducible repeat (first | apply Kd.R_alloc | apply Kd.R_drewN | apply Kd.R_drew)); exact HO185.out) (Kd.R_base ho0) hb); have n1_ := Aside0.mk (Kd.R_lower (Kd.R_new' ho0 (Kd.R_lt (by (with_reducible repeat (first | apply Kd.R_alloc | apply Kd.R_drewN | apply Kd.R_drew)); exact HO185.out))) (below_size (by repeat (first | (with_reducible first | exact HB.out | apply below_alloc | apply pw_below_drewN | apply below_drew1) | exact HB.out)))); have n2_ := Aside0.mk (below_step (by repeat (first | (with_reducible first | exact HB.out | apply below_alloc | apply pw_below_drewN | apply below_drew1) | exact HB.out)) hb); clear HO185; clear HB; have HO185 := n0_; have HO192 := n1_; have HB := n2_; clear n0_ n1_ n2_; (try clear hb); (try clear hb2); (try clear hk); (try clear hi); (try clear ho0)) | ((with_reducible refine gate_callee (f := 7) rfl ?_); refine goesL_ (some 30) rfl rfl Try.func7 (by kernel_rfl) rfl #[.string t186, .string t187, .int .i64 3, .bool false] rfl (by (try simp only [List.map_toArray, List.map_cons, List.map_nil]); first | done | rfl | (simp only [List.length_drop, List.length_take]; rfl)) ?_; (with_reducible refine (glyf_Get.calls t186 t187 3 false t193 t194 _ A3.out).mono ?_); rintro e w90 ⟨v195, rfl, ho0, hb⟩; refine ⟨_, rfl, ?_⟩; have n0_ := Aside0.mk (Kd.R_elder' (by (with_reducible repeat (first | apply Kd.R_alloc | apply Kd.R_drewN | apply Kd.R_drew)); exact HO185.out) (Kd.R_base ho0) hb); have n1_ := Aside0.mk (Kd.R_elder' (by (with_reducible repeat (first | apply Kd.R_alloc | apply Kd.R_drewN | apply Kd.R_drew)); exact HO192.out) (Kd.R_base ho0) hb); have n2_ := Aside0.mk (Kd.R_lower (Kd.R_new' (Kd.R_new' ho0 (Kd.R_lt (by (with_reducible repeat (first | apply Kd.R_alloc | apply Kd.R_drewN | apply Kd.R_drew)); exact HO185.out))) (Kd.R_lt (by (with_reducible repeat (first | apply Kd.R_alloc | apply Kd.R_drewN | apply Kd.R_drew)); exact HO192.out))) (below_size (by repeat (first | (with_reducible first | exact HB.out | apply below_alloc | apply pw_below_drewN | apply below_drew1) | exact HB.out)))); have n3_ := Aside0.mk (below_step (by repeat (first | (with_reducible first | exact HB.out | apply below_alloc | apply pw_below_drewN | apply below_drew1) | exact HB.out)) hb); clear HO185; clear HO192; clear HB; have HO185 := n0_; have HO192 := n1_; have HO196 := n2_; have HB := n3_; clear n0_ n1_ n2_ n3_; (try clear hb); (try clear hb2); (try clear hk); (try clear hi); (try clear ho0)) | ((with_reducible refine gate_callee (f := 15) rfl ?_); refine goesL_ (some 36) rfl rfl Try.func15 (by kernel_rfl) rfl #[.agg #[.int .i64 1000, .int .i64 2, .int .i64 1, .int .i64 800, .int .i64 (-200), .bool false], .slice Ao87 y183.length co87, .int .i64 0] rfl (by (try simp only [List.map_toArray, List.map_cons, List.map_nil]); first | done | rfl | (simp only [List.length_drop, List.length_take]; rfl)) ?_; (with_reducible refine (glyf_High.calls k 1000 2 1 800 (-200) false _ _ y183 0 t197 t198 t199 _ ?side1 ?side2 A4.out).mono ?_); (case side1 => repeat (first | exact (Kd.R_reads' HO185.out).2.2 | (with_reducible refine Kd.C_alloc ?_ _) | (with_reducible refine Kd.C_drewN ?_ _) | (with_reducible refine Kd.C_drew ?_))); (case side2 => exact (Kd.R_reads' HO185.out).2.1); rintro e w91 ⟨rfl, hb⟩; refine ⟨_, rfl, ?_⟩; have n0_ := Aside0.mk (Kd.R_below (by (with_reducible repeat (first | apply Kd.R_alloc | apply Kd.R_drewN | apply Kd.R_drew)); exact HO185.out) hb); have n1_ := Aside0.mk (Kd.R_below (by (with_reducible repeat (first | apply Kd.R_alloc | apply Kd.R_drewN | apply Kd.R_drew)); exact HO192.out) hb); have n2_ := Aside0.mk (Kd.R_below (by (with_reducible repeat (first | apply Kd.R_alloc | apply Kd.R_drewN | apply Kd.R_drew)); exact HO196.out) hb); have n3_ := Aside0.mk (below_step (by repeat (first | (with_reducible first | exact HB.out | apply below_alloc | apply pw_below_drewN | apply below_drew1) | exact HB.out)) hb); clear HO185; clear HO192; clear HO196; clear HB; have HO185 := n0_; have HO192 := n1_; have HO196 := n2_; have HB := n3_; clear n0_ n1_ n2_ n3_; (try clear hb); (try clear hb2); (try clear hk); (try clear hi)))
        go_ret
        exact ⟨by first | rfl | (simp [errW_none, errW_some] <;> rfl) | (simp [*, errW_none, errW_some] <;> rfl), by repeat (first | (with_reducible first | exact HB.out | apply below_alloc | apply pw_below_drewN | apply below_drew1) | exact HB.out)⟩
    · rw [if_neg c6] at H
      have c6b0 : (t186.toList == ([0, 0, 0, 6, 0, 6] : List UInt8)) = false := beq_eq_false_iff_ne.mpr c6
      have c6b1 : (t186.toList != ([0, 0, 0, 6, 0, 6] : List UInt8)) = true := bne_iff_ne.mpr c6
      obtain rfl := Option.some.inj H
      go_enter Try.func13, Try.ntmps13
      go_wp2_with (first | ((with_reducible refine gate_dst (N := 14) rfl ?_); (try (refine gate_guard (by rfl) ?_; dsimp only)); refine Kd.R_lit k30 _ 30 ?hg (N := 14) ?hd (xs := ([(⟨true, 1, (-2), 300, 400⟩ : S30), (⟨false, 0, 0, 0, 0⟩ : S30)] : List (S30))) (inner := [.bool true, .int .i64 1, .int .i64 (-2), .int .i64 300, .int .i64 400, .bool false, .int .i64 0, .int .i64 0, .int .i64 0, .int .i64 0]) (ok := fun _ => True) (okp := fun _ => True) ?hr ?hp (fun _ hk => hk) trivial (Below.refl _ _) (Nat.le_refl _) (by simp) ?_; (case hd => rfl); (case hg => rfl); (case hr => first | (go_simp; done) | (go_simp; rfl)); (case hp => exact (Reps.c5 (show Kd.M k30 _ _ _ (⟨true, 1, (-2), 300, 400⟩ : S30) [.bool true, .int .i64 1, .int .i64 (-2), .int .i64 300, .int .i64 400] from (k30_mkM _ _ _ (⟨true, 1, (-2), 300, 400⟩ : S30) )) (Reps.c5 (show Kd.M k30 _ _ _ (⟨false, 0, 0, 0, 0⟩ : S30) [.bool false, .int .i64 0, .int .i64 0, .int .i64 0, .int .i64 0] from (k30_mkM _ _ _ (⟨false, 0, 0, 0, 0⟩ : S30) )) (Reps.none _ _)))); intro v184 w92 ho93 hb hg_ hnew_; clear hg_ hnew_; (first | rw [← Ny183.out] at ho93 | (simp only [Int.reduceToNat] at ho93; rw [← Ny183.out] at ho93)); have n0_ := Aside0.mk (Kd.R_lower ho93 (below_size (by repeat (first | (with_reducible first | exact HB.out | apply below_alloc | apply pw_below_drewN | apply below_drew1) | exact HB.out)))); have n1_ := Aside0.mk (below_step (by repeat (first | (with_reducible first | exact HB.out | apply below_alloc | apply pw_below_drewN | apply below_drew1) | exact HB.out)) hb); clear HB; have HO185 := n0_; have HB := n1_; clear n0_ n1_; clear hb ho93; obtain ⟨Ao94, co94, eo94⟩ := Kd.R_slice HO185.out; subst eo94) | ((with_reducible refine gate_callee (f := 9) rfl ?_); refine goesL_ (some 17) rfl rfl Try.func9 (by kernel_rfl) rfl #[.slice Ao94 y183.length co94, .bool false] rfl (by (try simp only [List.map_toArray, List.map_cons, List.map_nil]); first | done | rfl | (simp only [List.length_drop, List.length_take]; rfl)) ?_; (with_reducible refine (glyf_Put.calls _ _ y183 false t186 t187 t188 _ ?side1 ?side2 A1.out).mono ?_); (case side1 => repeat (first | exact (Kd.R_reads' HO185.out).2.2 | (with_reducible refine Kd.C_alloc ?_ _) | (with_reducible refine Kd.C_drewN ?_ _) | (with_reducible refine Kd.C_drew ?_))); (case side2 => exact (Kd.R_reads' HO185.out).2.1); rintro e w95 ⟨rfl, hb⟩; refine ⟨_, rfl, ?_⟩; have n0_ := Aside0.mk (Kd.R_below (by (with_reducible repeat (first | apply Kd.R_alloc | apply Kd.R_drewN | apply Kd.R_drew)); exact HO185.out) hb); have n1_ := Aside0.mk (below_step (by repeat (first | (with_reducible first | exact HB.out | apply below_alloc | apply pw_below_drewN | apply below_drew1) | exact HB.out)) hb); clear HO185; clear HB; have HO185 := n0_; have HB := n1_; clear n0_ n1_; (try clear hb); (try clear hb2); (try clear hk); (try clear hi)) | ((with_reducible refine gate_callee (f := 7) rfl ?_); refine goesL_ (some 24) rfl rfl Try.func7 (by kernel_rfl) rfl #[.string t186, .string t187, .int .i64 2, .bool false] rfl (by (try simp only [List.map_toArray, List.map_cons, List.map_nil]); first | done | rfl | (simp only [List.length_drop, List.length_take]; rfl)) ?_; (with_reducible refine (glyf_Get.calls t186 t187 2 false t189 t190 _ A2.out).mono ?_); rintro e w96 ⟨v191, rfl, ho0, hb⟩; refine ⟨_, rfl, ?_⟩; have n0_ := Aside0.mk (Kd.R_elder' (by (with_reducible repeat (first | apply Kd.R_alloc | apply Kd.R_drewN | apply Kd.R_drew)); exact HO185.out) (Kd.R_base ho0) hb); have n1_ := Aside0.mk (Kd.R_lower (Kd.R_new' ho0 (Kd.R_lt (by (with_reducible repeat (first | apply Kd.R_alloc | apply Kd.R_drewN | apply Kd.R_drew)); exact HO185.out))) (below_size (by repeat (first | (with_reducible first | exact HB.out | apply below_alloc | apply pw_below_drewN | apply below_drew1) | exact HB.out)))); have n2_ := Aside0.mk (below_step (by repeat (first | (with_reducible first | exact HB.out | apply below_alloc | apply pw_below_drewN | apply below_drew1) | exact HB.out)) hb); clear HO185; clear HB; have HO185 := n0_; have HO192 := n1_; have HB := n2_; clear n0_ n1_ n2_; (try clear hb); (try clear hb2); (try clear hk); (try clear hi); (try clear ho0)) | ((with_reducible refine gate_callee (f := 7) rfl ?_); refine goesL_ (some 30) rfl rfl Try.func7 (by kernel_rfl) rfl #[.string t186, .string t187, .int .i64 3, .bool false] rfl (by (try simp only [List.map_toArray, List.map_cons, List.map_nil]); first | done | rfl | (simp only [List.length_drop, List.length_take]; rfl)) ?_; (with_reducible refine (glyf_Get.calls t186 t187 3 false t193 t194 _ A3.out).mono ?_); rintro e w97 ⟨v195, rfl, ho0, hb⟩; refine ⟨_, rfl, ?_⟩; have n0_ := Aside0.mk (Kd.R_elder' (by (with_reducible repeat (first | apply Kd.R_alloc | apply Kd.R_drewN | apply Kd.R_drew)); exact HO185.out) (Kd.R_base ho0) hb); have n1_ := Aside0.mk (Kd.R_elder' (by (with_reducible repeat (first | apply Kd.R_alloc | apply Kd.R_drewN | apply Kd.R_drew)); exact HO192.out) (Kd.R_base ho0) hb); have n2_ := Aside0.mk (Kd.R_lower (Kd.R_new' (Kd.R_new' ho0 (Kd.R_lt (by (with_reducible repeat (first | apply Kd.R_alloc | apply Kd.R_drewN | apply Kd.R_drew)); exact HO185.out))) (Kd.R_lt (by (with_reducible repeat (first | apply Kd.R_alloc | apply Kd.R_drewN | apply Kd.R_drew)); exact HO192.out))) (below_size (by repeat (first | (with_reducible first | exact HB.out | apply below_alloc | apply pw_below_drewN | apply below_drew1) | exact HB.out)))); have n3_ := Aside0.mk (below_step (by repeat (first | (with_reducible first | exact HB.out | apply below_alloc | apply pw_below_drewN | apply below_drew1) | exact HB.out)) hb); clear HO185; clear HO192; clear HB; have HO185 := n0_; have HO192 := n1_; have HO196 := n2_; have HB := n3_; clear n0_ n1_ n2_ n3_; (try clear hb); (try clear hb2); (try clear hk); (try clear hi); (try clear ho0)) | ((with_reducible refine gate_callee (f := 15) rfl ?_); refine goesL_ (some 36) rfl rfl Try.func15 (by kernel_rfl) rfl #[.agg #[.int .i64 1000, .int .i64 2, .int .i64 1, .int .i64 800, .int .i64 (-200), .bool false], .slice Ao94 y183.length co94, .int .i64 0] rfl (by (try simp only [List.map_toArray, List.map_cons, List.map_nil]); first | done | rfl | (simp only [List.length_drop, List.length_take]; rfl)) ?_; (with_reducible refine (glyf_High.calls k 1000 2 1 800 (-200) false _ _ y183 0 t197 t198 t199 _ ?side1 ?side2 A4.out).mono ?_); (case side1 => repeat (first | exact (Kd.R_reads' HO185.out).2.2 | (with_reducible refine Kd.C_alloc ?_ _) | (with_reducible refine Kd.C_drewN ?_ _) | (with_reducible refine Kd.C_drew ?_))); (case side2 => exact (Kd.R_reads' HO185.out).2.1); rintro e w98 ⟨rfl, hb⟩; refine ⟨_, rfl, ?_⟩; have n0_ := Aside0.mk (Kd.R_below (by (with_reducible repeat (first | apply Kd.R_alloc | apply Kd.R_drewN | apply Kd.R_drew)); exact HO185.out) hb); have n1_ := Aside0.mk (Kd.R_below (by (with_reducible repeat (first | apply Kd.R_alloc | apply Kd.R_drewN | apply Kd.R_drew)); exact HO192.out) hb); have n2_ := Aside0.mk (Kd.R_below (by (with_reducible repeat (first | apply Kd.R_alloc | apply Kd.R_drewN | apply Kd.R_drew)); exact HO196.out) hb); have n3_ := Aside0.mk (below_step (by repeat (first | (with_reducible first | exact HB.out | apply below_alloc | apply pw_below_drewN | apply below_drew1) | exact HB.out)) hb); clear HO185; clear HO192; clear HO196; clear HB; have HO185 := n0_; have HO192 := n1_; have HO196 := n2_; have HB := n3_; clear n0_ n1_ n2_ n3_; (try clear hb); (try clear hb2); (try clear hk); (try clear hi)))
      go_ret
      exact ⟨by first | rfl | (simp [errW_none, errW_some] <;> rfl) | (simp [*, errW_none, errW_some] <;> rfl), by repeat (first | (with_reducible first | exact HB.out | apply below_alloc | apply pw_below_drewN | apply below_drew1) | exact HB.out)⟩
  · rw [if_neg c5] at H
    have c5b0 : (t188 == 0) = false := beq_eq_false_iff_ne.mpr c5
    have c5b1 : (t188 != 0) = true := bne_iff_ne.mpr c5
    obtain rfl := Option.some.inj H
    go_enter Try.func13, Try.ntmps13
    go_wp2_with (first | ((with_reducible refine gate_dst (N := 14) rfl ?_); (try (refine gate_guard (by rfl) ?_; dsimp only)); refine Kd.R_lit k30 _ 30 ?hg (N := 14) ?hd (xs := ([(⟨true, 1, (-2), 300, 400⟩ : S30), (⟨false, 0, 0, 0, 0⟩ : S30)] : List (S30))) (inner := [.bool true, .int .i64 1, .int .i64 (-2), .int .i64 300, .int .i64 400, .bool false, .int .i64 0, .int .i64 0, .int .i64 0, .int .i64 0]) (ok := fun _ => True) (okp := fun _ => True) ?hr ?hp (fun _ hk => hk) trivial (Below.refl _ _) (Nat.le_refl _) (by simp) ?_; (case hd => rfl); (case hg => rfl); (case hr => first | (go_simp; done) | (go_simp; rfl)); (case hp => exact (Reps.c5 (show Kd.M k30 _ _ _ (⟨true, 1, (-2), 300, 400⟩ : S30) [.bool true, .int .i64 1, .int .i64 (-2), .int .i64 300, .int .i64 400] from (k30_mkM _ _ _ (⟨true, 1, (-2), 300, 400⟩ : S30) )) (Reps.c5 (show Kd.M k30 _ _ _ (⟨false, 0, 0, 0, 0⟩ : S30) [.bool false, .int .i64 0, .int .i64 0, .int .i64 0, .int .i64 0] from (k30_mkM _ _ _ (⟨false, 0, 0, 0, 0⟩ : S30) )) (Reps.none _ _)))); intro v184 w99 ho100 hb hg_ hnew_; clear hg_ hnew_; (first | rw [← Ny183.out] at ho100 | (simp only [Int.reduceToNat] at ho100; rw [← Ny183.out] at ho100)); have n0_ := Aside0.mk (Kd.R_lower ho100 (below_size (by repeat (first | (with_reducible first | exact HB.out | apply below_alloc | apply pw_below_drewN | apply below_drew1) | exact HB.out)))); have n1_ := Aside0.mk (below_step (by repeat (first | (with_reducible first | exact HB.out | apply below_alloc | apply pw_below_drewN | apply below_drew1) | exact HB.out)) hb); clear HB; have HO185 := n0_; have HB := n1_; clear n0_ n1_; clear hb ho100; obtain ⟨Ao101, co101, eo101⟩ := Kd.R_slice HO185.out; subst eo101) | ((with_reducible refine gate_callee (f := 9) rfl ?_); refine goesL_ (some 17) rfl rfl Try.func9 (by kernel_rfl) rfl #[.slice Ao101 y183.length co101, .bool false] rfl (by (try simp only [List.map_toArray, List.map_cons, List.map_nil]); first | done | rfl | (simp only [List.length_drop, List.length_take]; rfl)) ?_; (with_reducible refine (glyf_Put.calls _ _ y183 false t186 t187 t188 _ ?side1 ?side2 A1.out).mono ?_); (case side1 => repeat (first | exact (Kd.R_reads' HO185.out).2.2 | (with_reducible refine Kd.C_alloc ?_ _) | (with_reducible refine Kd.C_drewN ?_ _) | (with_reducible refine Kd.C_drew ?_))); (case side2 => exact (Kd.R_reads' HO185.out).2.1); rintro e w102 ⟨rfl, hb⟩; refine ⟨_, rfl, ?_⟩; have n0_ := Aside0.mk (Kd.R_below (by (with_reducible repeat (first | apply Kd.R_alloc | apply Kd.R_drewN | apply Kd.R_drew)); exact HO185.out) hb); have n1_ := Aside0.mk (below_step (by repeat (first | (with_reducible first | exact HB.out | apply below_alloc | apply pw_below_drewN | apply below_drew1) | exact HB.out)) hb); clear HO185; clear HB; have HO185 := n0_; have HB := n1_; clear n0_ n1_; (try clear hb); (try clear hb2); (try clear hk); (try clear hi)) | ((with_reducible refine gate_callee (f := 7) rfl ?_); refine goesL_ (some 24) rfl rfl Try.func7 (by kernel_rfl) rfl #[.string t186, .string t187, .int .i64 2, .bool false] rfl (by (try simp only [List.map_toArray, List.map_cons, List.map_nil]); first | done | rfl | (simp only [List.length_drop, List.length_take]; rfl)) ?_; (with_reducible refine (glyf_Get.calls t186 t187 2 false t189 t190 _ A2.out).mono ?_); rintro e w103 ⟨v191, rfl, ho0, hb⟩; refine ⟨_, rfl, ?_⟩; have n0_ := Aside0.mk (Kd.R_elder' (by (with_reducible repeat (first | apply Kd.R_alloc | apply Kd.R_drewN | apply Kd.R_drew)); exact HO185.out) (Kd.R_base ho0) hb); have n1_ := Aside0.mk (Kd.R_lower (Kd.R_new' ho0 (Kd.R_lt (by (with_reducible repeat (first | apply Kd.R_alloc | apply Kd.R_drewN | apply Kd.R_drew)); exact HO185.out))) (below_size (by repeat (first | (with_reducible first | exact HB.out | apply below_alloc | apply pw_below_drewN | apply below_drew1) | exact HB.out)))); have n2_ := Aside0.mk (below_step (by repeat (first | (with_reducible first | exact HB.out | apply below_alloc | apply pw_below_drewN | apply below_drew1) | exact HB.out)) hb); clear HO185; clear HB; have HO185 := n0_; have HO192 := n1_; have HB := n2_; clear n0_ n1_ n2_; (try clear hb); (try clear hb2); (try clear hk); (try clear hi); (try clear ho0)) | ((with_reducible refine gate_callee (f := 7) rfl ?_); refine goesL_ (some 30) rfl rfl Try.func7 (by kernel_rfl) rfl #[.string t186, .string t187, .int .i64 3, .bool false] rfl (by (try simp only [List.map_toArray, List.map_cons, List.map_nil]); first | done | rfl | (simp only [List.length_drop, List.length_take]; rfl)) ?_; (with_reducible refine (glyf_Get.calls t186 t187 3 false t193 t194 _ A3.out).mono ?_); rintro e w104 ⟨v195, rfl, ho0, hb⟩; refine ⟨_, rfl, ?_⟩; have n0_ := Aside0.mk (Kd.R_elder' (by (with_reducible repeat (first | apply Kd.R_alloc | apply Kd.R_drewN | apply Kd.R_drew)); exact HO185.out) (Kd.R_base ho0) hb); have n1_ := Aside0.mk (Kd.R_elder' (by (with_reducible repeat (first | apply Kd.R_alloc | apply Kd.R_drewN | apply Kd.R_drew)); exact HO192.out) (Kd.R_base ho0) hb); have n2_ := Aside0.mk (Kd.R_lower (Kd.R_new' (Kd.R_new' ho0 (Kd.R_lt (by (with_reducible repeat (first | apply Kd.R_alloc | apply Kd.R_drewN | apply Kd.R_drew)); exact HO185.out))) (Kd.R_lt (by (with_reducible repeat (first | apply Kd.R_alloc | apply Kd.R_drewN | apply Kd.R_drew)); exact HO192.out))) (below_size (by repeat (first | (with_reducible first | exact HB.out | apply below_alloc | apply pw_below_drewN | apply below_drew1) | exact HB.out)))); have n3_ := Aside0.mk (below_step (by repeat (first | (with_reducible first | exact HB.out | apply below_alloc | apply pw_below_drewN | apply below_drew1) | exact HB.out)) hb); clear HO185; clear HO192; clear HB; have HO185 := n0_; have HO192 := n1_; have HO196 := n2_; have HB := n3_; clear n0_ n1_ n2_ n3_; (try clear hb); (try clear hb2); (try clear hk); (try clear hi); (try clear ho0)) | ((with_reducible refine gate_callee (f := 15) rfl ?_); refine goesL_ (some 36) rfl rfl Try.func15 (by kernel_rfl) rfl #[.agg #[.int .i64 1000, .int .i64 2, .int .i64 1, .int .i64 800, .int .i64 (-200), .bool false], .slice Ao101 y183.length co101, .int .i64 0] rfl (by (try simp only [List.map_toArray, List.map_cons, List.map_nil]); first | done | rfl | (simp only [List.length_drop, List.length_take]; rfl)) ?_; (with_reducible refine (glyf_High.calls k 1000 2 1 800 (-200) false _ _ y183 0 t197 t198 t199 _ ?side1 ?side2 A4.out).mono ?_); (case side1 => repeat (first | exact (Kd.R_reads' HO185.out).2.2 | (with_reducible refine Kd.C_alloc ?_ _) | (with_reducible refine Kd.C_drewN ?_ _) | (with_reducible refine Kd.C_drew ?_))); (case side2 => exact (Kd.R_reads' HO185.out).2.1); rintro e w105 ⟨rfl, hb⟩; refine ⟨_, rfl, ?_⟩; have n0_ := Aside0.mk (Kd.R_below (by (with_reducible repeat (first | apply Kd.R_alloc | apply Kd.R_drewN | apply Kd.R_drew)); exact HO185.out) hb); have n1_ := Aside0.mk (Kd.R_below (by (with_reducible repeat (first | apply Kd.R_alloc | apply Kd.R_drewN | apply Kd.R_drew)); exact HO192.out) hb); have n2_ := Aside0.mk (Kd.R_below (by (with_reducible repeat (first | apply Kd.R_alloc | apply Kd.R_drewN | apply Kd.R_drew)); exact HO196.out) hb); have n3_ := Aside0.mk (below_step (by repeat (first | (with_reducible first | exact HB.out | apply below_alloc | apply pw_below_drewN | apply below_drew1) | exact HB.out)) hb); clear HO185; clear HO192; clear HO196; clear HB; have HO185 := n0_; have HO192 := n1_; have HO196 := n2_; have HB := n3_; clear n0_ n1_ n2_ n3_; (try clear hb); (try clear hb2); (try clear hk); (try clear hi)))
    go_ret
    exact ⟨by first | rfl | (simp [errW_none, errW_some] <;> rfl) | (simp [*, errW_none, errW_some] <;> rfl), by repeat (first | (with_reducible first | exact HB.out | apply below_alloc | apply pw_below_drewN | apply below_drew1) | exact HB.out)⟩
end Go.Proofs.Ytjmliafplgjkhaa.P
end
