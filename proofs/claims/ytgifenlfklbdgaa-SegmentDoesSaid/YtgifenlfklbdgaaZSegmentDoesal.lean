/- A part of the proof of the law SegmentDoes: the words, contracts and plain facts that it needs, no more. Each says its own condition. -/
import Derived.Test.YtgifenlfklbdgaaZSegmentDoesaj
import Derived.Test.YtgifenlfklbdgaaZSegmentDoesak
namespace Go.Proofs.Ytgifenlfklbdgaa.P
open Go.RowKit Go.Proofs.YtgifenlfklbdgaaW.PrintWords Go.Proofs.YtgifenlfklbdgaaW.PrintLast Go.Proofs.YtgifenlfklbdgaaW.PrintMore
set_option linter.unusedSimpArgs false
set_option linter.unusedVariables false
structure OutW (w W : World) (ob nb n : Nat) (xs : List Int) : Prop where
  o : ∃ vo, W.heap[ob]? = some (.cells #[vo] 54 (0, 0)) ∧ Kd.R (Kd.int .i64) 3 W w.heap.size (fun k => k ≠ nb) vo xs
  n : W.heap[nb]? = some (.cells #[.int .i64 (n : Int)] 3 (0, 0))
  b : Below w.heap.size w W
  s : w.heap.size ≤ ob
namespace OutW
variable {w W U : World} {ob nb n : Nat} {xs : List Int}
theorem below (h : OutW w W ob nb n xs) (hb : Below W.heap.size W U) : OutW w U ob nb n xs := by
  obtain ⟨vo, h1, h3⟩ := h.o
  exact ⟨⟨vo, (hb.block ob (blk_lt h1)).trans h1, Kd.R_below h3 hb⟩, (hb.block nb (blk_lt h.n)).trans h.n, below_then h.b h.b.size hb, h.s⟩
theorem puts {vo v1 : Value} {zs : List Int} (h : OutW w W ob nb n xs) (h1 : W.heap[ob]? = some (.cells #[vo] 54 (0, 0))) (h3 : Kd.R (Kd.int .i64) 3 W w.heap.size (fun k => k ≠ nb) vo xs)
    (hv : Kd.R (Kd.int .i64) 3 U w.heap.size (fun k => k ≠ nb) v1 zs) (hb : Below w.heap.size w U) (hg : W.grownBy U vo.ownBlock) :
    OutW w (U.setCell ⟨ob, 0, none⟩ v1) ob nb n zs ∧ Keep4 W (U.setCell ⟨ob, 0, none⟩ v1) := by
  have hty := row_typed h3
  have hne : ∀ b cs t, W.heap[b]? = some (.cells cs t (0, 0)) → (t ≠ 3 ∨ b = nb) → some b ≠ vo.ownBlock := fun b cs t hb ht e => by
    obtain ⟨_, _, hok, cells, hc⟩ := hty b e.symm
    rcases ht with ht | ht
    · rw [hb] at hc
      injection hc with hc
      injection hc with _ hc
      exact ht hc
    · exact hok ht
  have keep : ∀ b cs t, W.heap[b]? = some (.cells cs t (0, 0)) → (t ≠ 3 ∨ b = nb) → U.heap[b]? = some (.cells cs t (0, 0)) := fun b cs t hb ht => (hg.block b (blk_lt hb) (hne b cs t hb ht)).trans hb
  have u1 := keep ob _ _ h1 (.inl (by decide))
  have un := keep nb _ _ h.n (.inr rfl)
  have hon : ob ≠ nb := PutS.typed h1 h.n (by decide)
  exact ⟨⟨⟨v1, set_one u1 _, Kd.R_set hv u1 (by simp [Kd.int, Kd.scalar]) _ _⟩, (Below.heap_setCell U _ _ _ (fun e => hon e.symm)).trans un, hb.setCell h.s _, h.s⟩, (Keep4.grown hg (fun k e => (hty k e).2.2.2)).trans (Keep4.set u1 (.inr rfl) 0 v1)⟩
theorem put (h : OutW w W ob nb n xs) (A : Option Addr) (m c : Nat) (ys : List Int) (hA : Kd.C (Kd.int .i64) W A m ys) (hl : xs.length + m ≤ 1000000) :
    Calls Try.prog 92 #[.slice A m c, .pointer (some ⟨ob, 0, none⟩)] W fun e w' => (∃ v, e = .returned v) ∧ OutW w w' ob nb n (xs ++ ys) ∧ Keep4 W w' := by
  obtain ⟨vo, h1, h3⟩ := h.o
  refine (put1_calls ob w W w.heap.size (fun k => k ≠ nb) vo xs ys A m c h1 h3 (fun k hk e => by have := blk_lt h.n; omega) h.b h.b.size hA (by omega)).mono ?_
  rintro e w' ⟨hv, U, v1, rfl, hr, hb, hg, _, _⟩
  exact ⟨hv, puts h h1 h3 hr hb hg⟩
end OutW
theorem PutS.put {w W : World} {ob rb tb nb n : Nat} {xs ys : List Int} {a : Int} (h : PutS w W ob rb tb nb n xs ys a) (A : Option Addr) (m c : Nat) (zs : List Int) (hA : Kd.C (Kd.int .i64) W A m zs) (hl : xs.length + m ≤ 1000000) :
    Calls Try.prog 92 #[.slice A m c, .pointer (some ⟨ob, 0, none⟩)] W fun e w' => (∃ v, e = .returned v) ∧ PutS w w' ob rb tb nb n (xs ++ zs) ys a ∧ Keep4 W w' := by
  obtain ⟨vo, vr, h1, h2, h3, h4, h5⟩ := h.o
  refine (put1_calls ob w W w.heap.size (fun k => k ≠ nb ∧ k ≠ tb) vo xs zs A m c h1 h3 (fun k hk => ⟨fun e => by have := blk_lt h.n; omega, fun e => by have := blk_lt h.t; omega⟩) h.b h.b.size hA (by omega)).mono ?_
  rintro e w' ⟨hv, U, v1, rfl, hr, hb, hg, hat, _⟩
  exact ⟨hv, PutS.puts h h1 h2 h3 h4 h5 hr hb hg hat⟩
theorem map_step {β : Type} (f : S42 → β) (L : List S42) (i : Nat) (h : i < L.length) : (L.take (i + 1)).map f = (L.take i).map f ++ [f (atS L i)] := by
  rw [List.take_add_one, List.getElem?_eq_getElem h, List.map_append, atS_get L i h]; rfl
theorem each_quiet (K : Nat) (he : EntersK K) (f : S42 → Int) (hf : ∀ (x : S42) (W : World), rightN x = true → x.f1 ≤ 65535 → Calls Try.prog K #[.agg #[.int .i64 x.f0, .int .i64 x.f1, .int .i64 x.f2, .int .i64 x.f3]] W fun e w' => e = .returned (.int .i64 (f x)) ∧ Below W.heap.size W w')
    (w : World) (lb pb ob nb : Nat) (AL : Option Addr) (n c : Nat) (L : List S42) (W0 : World) (hn : n = L.length) (hn2 : n ≤ 70000) (hr : ∀ x ∈ L, rightN x = true ∧ x.f1 ≤ 65535)
    (hlb : W0.heap[lb]? = some (.cells #[.slice AL n c] 22 (0, 0)))
    (hpb : W0.heap[pb]? = some (.cells #[.func (.func 92) #[] #[.pointer (some ⟨ob, 0, none⟩)]] 114 (0, 0)))
    (hC : Kd.C k42 W0 AL n L) (hT : ∀ a, AL = some a → ∃ cur, W0.heap[a.block]? = some (.cells cur 42 (0, 0))) (xs : List Int) (h0 : OutW w W0 ob nb n xs) (hl : xs.length + n ≤ 900000) :
    Calls Try.prog 93 #[.func (.func K) #[] #[], .pointer (some ⟨lb, 0, none⟩), .pointer (some ⟨pb, 0, none⟩)] W0 fun e w' => (∃ v, e = .returned v) ∧ OutW w w' ob nb n (xs ++ L.map f) ∧ Keep4 W0 w' := by
  have hlen : ∀ i, i ≤ n → (xs ++ (L.take i).map f).length = xs.length + i := fun i hi => by rw [List.length_append, List.length_map, List.length_take]; omega
  refine (each_walk K #[] he lb pb ob AL n c L W0 hn hn2 hlb hpb hC hT (fun i => f (atS L i)) (fun i W => OutW w W ob nb n (xs ++ (L.take i).map f)) (fun i W => OutW w W ob nb n (xs ++ (L.take i).map f)) (by simpa using h0) (fun i W W' h hb => h.below hb) (fun i W W' h hb => h.below hb) ?_ ?_).mono ?_
  · intro i W hi hJ _
    have hx : rightN (atS L i) = true ∧ (atS L i).f1 ≤ 65535 := by rw [atS_get L i (by omega)]; exact hr _ (List.getElem_mem _)
    exact (hf (atS L i) W hx.1 hx.2).mono (fun e w' ⟨h1, h2⟩ => ⟨h1, hJ.below h2, Keep4.below h2⟩)
  · intro i W A hi hJ hA
    refine (hJ.put A 1 1 _ hA (by rw [hlen i (by omega)]; omega)).mono (fun e w' ⟨h1, h2, h3⟩ => ⟨h1, ?_, h3⟩)
    rw [map_step f L i (by omega), ← List.append_assoc]
    exact h2
  · rintro e w' ⟨h1, h2, h3⟩
    refine ⟨h1, ?_, h3⟩
    rw [hn, List.take_of_length_le (Nat.le_refl _)] at h2
    rw [hn]; exact h2
theorem enters_put3 : EntersK 94 := entersK_of Try.func94 (by kernel_rfl) (by kernel_rfl)
theorem enters_put4 : EntersK 95 := entersK_of Try.func95 (by kernel_rfl) (by kernel_rfl)
theorem enters_put5 : EntersK 96 := entersK_of Try.func96 (by kernel_rfl) (by kernel_rfl)
theorem enters_put6 : EntersK 98 := entersK_of Try.func98 (by kernel_rfl) (by kernel_rfl)
theorem put5_some {x : S42} (hx : rightN x = true) (hm : x.f1 ≤ 65535) : segment_Put_5.f x.f0 x.f1 x.f2 x.f3 = some (delS x) := by
  obtain ⟨a0, a1, a2, a3, a4, a5, a6⟩ := (right_iff x).1 hx
  have hw1 : wrap64 (65536 + x.f2) = 65536 + x.f2 := by unfold wrap64; omega
  have hw2 : wrap64 (65536 + x.f2 - x.f0) = 65536 + x.f2 - x.f0 := by unfold wrap64; omega
  have hm2 : (65536 + x.f2 - x.f0).tmod 65536 = (65536 + x.f2 - x.f0) % 65536 := Int.tmod_eq_emod_of_nonneg (by omega)
  unfold segment_Put_5.f
  rw [row_some, Option.bind_some, hw1, hw2, hm2]
  unfold delS
  split <;> rfl
theorem rest_more (L : List S42) (i : Nat) (h : i < L.length) : restS (L.take (i + 1)) = restS (L.take i) ++ List.replicate (cntX (atS L i)) (atS L i).f2 := by
  unfold restS
  rw [List.take_add_one, List.getElem?_eq_getElem h, List.flatMap_append, atS_get L i h]
  simp
theorem off_value (L : List S42) (i : Nat) (h : i < L.length) : (offsS 0 L)[i]? = some (off6 (atS L i) (offI L.length i (restS (L.take i)).length)) := by
  rw [List.getElem?_eq_getElem (by rw [offs_length]; exact h), offs_at L i h, atS_get L i h, rest_length]
  unfold off6 offI
  congr 1
  split
  · omega
  · rfl
theorem offs_step (L : List S42) (i : Nat) (h : i < L.length) : (offsS 0 L).take (i + 1) = (offsS 0 L).take i ++ [off6 (atS L i) (offI L.length i (restS (L.take i)).length)] := by
  rw [List.take_add_one, off_value L i h]; rfl
theorem each_offs (w : World) (lb pb ob rb tb nb : Nat) (AL : Option Addr) (n c : Nat) (L : List S42) (W0 : World) (hn : n = L.length) (hn2 : n ≤ 70000) (hr : ∀ x ∈ L, rightN x = true) (hcr : cntR L ≤ 100000)
    (hlb : W0.heap[lb]? = some (.cells #[.slice AL n c] 22 (0, 0)))
    (hpb : W0.heap[pb]? = some (.cells #[.func (.func 92) #[] #[.pointer (some ⟨ob, 0, none⟩)]] 114 (0, 0)))
    (hC : Kd.C k42 W0 AL n L) (hT : ∀ a, AL = some a → ∃ cur, W0.heap[a.block]? = some (.cells cur 42 (0, 0))) (xs : List Int) (h0 : PutS w W0 ob rb tb nb n xs [] 0) (hl : xs.length + n ≤ 900000) :
    Calls Try.prog 93 #[.func (.func 98) #[] #[.pointer (some ⟨tb, 0, none⟩), .pointer (some ⟨nb, 0, none⟩), .pointer (some ⟨rb, 0, none⟩)], .pointer (some ⟨lb, 0, none⟩), .pointer (some ⟨pb, 0, none⟩)] W0 fun e w' => (∃ v, e = .returned v) ∧ PutS w w' ob rb tb nb n (xs ++ offsS 0 L) (restS L) (n : Int) ∧ Keep4 W0 w' := by
  have hlen : ∀ i, i ≤ n → (xs ++ (offsS 0 L).take i).length = xs.length + i := fun i hi => by rw [List.length_append, List.length_take, offs_length]; omega
  refine (each_walk 98 #[.pointer (some ⟨tb, 0, none⟩), .pointer (some ⟨nb, 0, none⟩), .pointer (some ⟨rb, 0, none⟩)] enters_put6 lb pb ob AL n c L W0 hn hn2 hlb hpb hC hT (fun i => off6 (atS L i) (offI n i (restS (L.take i)).length))
    (fun i W => PutS w W ob rb tb nb n (xs ++ (offsS 0 L).take i) (restS (L.take i)) (i : Int)) (fun i W => PutS w W ob rb tb nb n (xs ++ (offsS 0 L).take i) (restS (L.take (i + 1))) ((i : Int) + 1)) (by simpa [restS] using h0) (fun i W W' h hb => h.below hb) (fun i W W' h hb => h.below hb) ?_ ?_).mono ?_
  · intro i W hi hJ _
    have hil : i < L.length := by omega
    have hx : rightN (atS L i) = true := by rw [atS_get L i hil]; exact hr _ (List.getElem_mem _)
    have hq : (restS (L.take i)).length + cntX (atS L i) ≤ 10000000 := by
      have := cntR_step L i hil
      rw [rest_length, atS_get L i hil]; omega
    refine (put6_walk w W ob rb tb nb n i _ _ (atS L i) hx hJ hi hn2 hq).mono (fun e w' ⟨h1, h2, h3⟩ => ⟨h1, ?_, h3⟩)
    show PutS w w' ob rb tb nb n _ (restS (L.take (i + 1))) _
    rw [rest_more L i hil]
    exact h2
  · intro i W A hi hJ hA
    refine (PutS.put hJ A 1 1 _ hA (by rw [hlen i (by omega)]; omega)).mono (fun e w' ⟨h1, h2, h3⟩ => ⟨h1, ?_, h3⟩)
    show PutS w w' ob rb tb nb n (xs ++ (offsS 0 L).take (i + 1)) (restS (L.take (i + 1))) ((i + 1 : Nat) : Int)
    rw [offs_step L i (by omega), ← List.append_assoc, ← hn]
    exact h2
  · rintro e w' ⟨h1, h2, h3⟩
    refine ⟨h1, ?_, h3⟩
    have e1 : (offsS 0 L).take n = offsS 0 L := List.take_of_length_le (by rw [offs_length]; omega)
    have e2 : L.take n = L := List.take_of_length_le (by omega)
    rw [e1, e2] at h2
    exact h2
end Go.Proofs.Ytgifenlfklbdgaa.P
