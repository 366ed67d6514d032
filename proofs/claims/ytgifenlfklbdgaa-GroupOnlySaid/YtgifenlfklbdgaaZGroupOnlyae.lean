/- A part of the proof of the law GroupOnly: the words, contracts and plain facts that it needs, no more. Each says its own condition. -/
import Derived.Test.YtgifenlfklbdgaaZGroupOnlyab
import Derived.Test.YtgifenlfklbdgaaZGroupOnlyad
namespace Go.Proofs.Ytgifenlfklbdgaa.P
open Go.RowKit Go.Proofs.YtgifenlfklbdgaaW.PrintWords Go.Proofs.YtgifenlfklbdgaaW.PrintLast Go.Proofs.YtgifenlfklbdgaaW.PrintMore
set_option linter.unusedSimpArgs false
set_option linter.unusedVariables false
theorem ord_app : ∀ {a b : List S42}, (∀ x ∈ a, rightN x = true) → (∀ x ∈ a, ∀ y ∈ b, x.f1 < y.f0) → ordN a = true → ordN b = true → ordN (a ++ b) = true
  | [], b, _, _, _, hb => hb
  | x :: r, b, hr, hab, ha, hb => by
    have h1 := ord_head (fun y hy => hr y (List.mem_cons_of_mem _ hy)) ha
    refine ord_mk (fun y hy => ?_) (ord_app (fun y hy => hr y (List.mem_cons_of_mem _ hy)) (fun z hz y hy => hab z (List.mem_cons_of_mem _ hz) y hy) (ord_cons ha) hb)
    rcases List.mem_append.1 hy with hy | hy
    · exact h1 y hy
    · exact hab x List.mem_cons_self y hy
theorem lin_front : ∀ (a b : List S42) (c : Int), (∀ y ∈ b, ¬ (y.f0 ≤ c ∧ c ≤ y.f1)) → linN (a ++ b) c = linN a c
  | [], b, c, h => by rw [List.nil_append, lin_none b c h]; rfl
  | x :: r, b, c, h => by
    rw [List.cons_append]
    unfold linN
    rw [lin_front r b c h]
theorem parts_ok {x : S42} (hx : rightN x = true) {st : Int} (hst : st = 0 ∨ st = 1) : ∀ y ∈ partsP x st, rightN y = true ∧ y.f3 = st ∧ x.f0 ≤ y.f0 ∧ y.f1 ≤ x.f1 := by
  obtain ⟨a0, a1, a2, a3, a4, a5, a6⟩ := (right_iff x).1 hx
  intro y hy
  unfold partsP at hy
  split at hy
  · rename_i hone
    split at hy
    · obtain rfl := List.mem_singleton.1 hy
      refine ⟨?_, rfl, Int.le_refl _, Int.le_refl _⟩
      rw [right_iff]
      refine ⟨a0, a1, a2, hst, a4, a5, ?_⟩
      show x.f2 + st * (x.f1 - x.f0) ≤ 65535
      rcases hone with h | h
      · rw [← h]; exact a6
      · rw [h, show x.f1 - x.f1 = 0 by omega, Int.mul_zero]; omega
    · simp at hy
  · unfold partsL at hy
    obtain ⟨hm, hp⟩ := List.mem_filter.1 hy
    obtain ⟨i, hi, rfl⟩ := List.mem_map.1 hm
    have hi := List.mem_range.1 hi
    have hp := of_decide_eq_true hp
    unfold partP at hp ⊢
    dsimp only at hp ⊢
    have hg : x.f2 + x.f3 * (i : Int) ≤ 65535 := by
      rcases a3 with h3 | h3
      · rw [h3, Int.zero_mul] at a6 ⊢; omega
      · rw [h3, Int.one_mul] at a6 ⊢; omega
    refine ⟨?_, rfl, by omega, by omega⟩
    rw [right_iff]
    refine ⟨by show 0 ≤ x.f0 + (i : Int); omega, Int.le_refl _, by show x.f0 + (i : Int) ≤ 1114111; omega, hst, by show 0 ≤ x.f2 + x.f3 * (i : Int); omega, hg, ?_⟩
    show x.f2 + x.f3 * (i : Int) + st * (x.f0 + (i : Int) - (x.f0 + (i : Int))) ≤ 65535
    rw [show x.f0 + (i : Int) - (x.f0 + (i : Int)) = 0 by omega, Int.mul_zero]; omega
theorem partsL_mem {x : S42} {st : Int} {n : Nat} {y : S42} (hy : y ∈ partsL x st n) : x.f0 ≤ y.f0 ∧ y.f0 = y.f1 ∧ y.f1 < x.f0 + (n : Int) := by
  unfold partsL at hy
  obtain ⟨hm, _⟩ := List.mem_filter.1 hy
  obtain ⟨i, hi, rfl⟩ := List.mem_map.1 hm
  have hi := List.mem_range.1 hi
  unfold partP
  dsimp only
  omega
theorem partsL_right {x : S42} (hx : rightN x = true) {st : Int} (hst : st = 0 ∨ st = 1) {n : Nat} (hn : (n : Int) ≤ x.f1 - x.f0 + 1) : ∀ y ∈ partsL x st n, rightN y = true := by
  obtain ⟨a0, a1, a2, a3, a4, a5, a6⟩ := (right_iff x).1 hx
  intro y hy
  unfold partsL at hy
  obtain ⟨hm, hp⟩ := List.mem_filter.1 hy
  obtain ⟨i, hi, rfl⟩ := List.mem_map.1 hm
  have hi := List.mem_range.1 hi
  have hp := of_decide_eq_true hp
  unfold partP at hp ⊢
  dsimp only at hp ⊢
  have hg : x.f2 + x.f3 * (i : Int) ≤ 65535 := by
    rcases a3 with h3 | h3
    · rw [h3, Int.zero_mul] at a6 ⊢; omega
    · rw [h3, Int.one_mul] at a6 ⊢; omega
  rw [right_iff]
  refine ⟨by show 0 ≤ x.f0 + (i : Int); omega, Int.le_refl _, by show x.f0 + (i : Int) ≤ 1114111; omega, hst, by show 0 ≤ x.f2 + x.f3 * (i : Int); omega, hg, ?_⟩
  show x.f2 + x.f3 * (i : Int) + st * (x.f0 + (i : Int) - (x.f0 + (i : Int))) ≤ 65535
  rw [show x.f0 + (i : Int) - (x.f0 + (i : Int)) = 0 by omega, Int.mul_zero]; omega
theorem partsL_ord {x : S42} (hx : rightN x = true) {st : Int} (hst : st = 0 ∨ st = 1) : ∀ n : Nat, (n : Int) ≤ x.f1 - x.f0 + 1 → ordN (partsL x st n) = true
  | 0, _ => rfl
  | n + 1, hn => by
    rw [partsL_succ]
    refine ord_app (partsL_right hx hst (by omega)) (fun y hy z hz => ?_) (partsL_ord hx hst n (by omega)) (by split <;> rfl)
    have h1 := (partsL_mem hy).2.2
    split at hz
    · obtain rfl := List.mem_singleton.1 hz
      unfold partP
      exact h1
    · simp at hz
theorem partsL_lin {x : S42} (hx : rightN x = true) {st : Int} (hst : st = 0 ∨ st = 1) (c : Int) : ∀ n : Nat, (n : Int) ≤ x.f1 - x.f0 + 1 → linN (partsL x st n) c = if x.f0 ≤ c ∧ c < x.f0 + (n : Int) then x.f2 + x.f3 * (c - x.f0) else 0
  | 0, _ => by rw [if_neg (by omega)]; rfl
  | n + 1, hn => by
    have ih := partsL_lin hx hst c n (by omega)
    obtain ⟨a0, a1, a2, a3, a4, a5, a6⟩ := (right_iff x).1 hx
    rw [partsL_succ]
    by_cases hc : c = x.f0 + (n : Int)
    · have hcc : x.f0 ≤ c ∧ c < x.f0 + ((n + 1 : Nat) : Int) := by omega
      rw [lin_skip _ _ c (fun y hy h => by have := (partsL_mem hy).2.2; omega), if_pos hcc, show c - x.f0 = (n : Int) by omega]
      have hg : 0 ≤ x.f2 + x.f3 * (n : Int) := by
        rcases a3 with h3 | h3
        · rw [h3, Int.zero_mul]; omega
        · rw [h3, Int.one_mul]; omega
      by_cases hp : 0 < x.f2 + x.f3 * (n : Int)
      · rw [if_pos hp]
        unfold linN
        have hin : (partP x st n).f0 ≤ c ∧ c ≤ (partP x st n).f1 := by unfold partP; dsimp only; omega
        rw [if_pos hin]
        show x.f2 + x.f3 * (n : Int) + st * (c - (x.f0 + (n : Int))) = _
        rw [hc, show x.f0 + (n : Int) - (x.f0 + (n : Int)) = 0 by omega, Int.mul_zero, Int.add_zero]
      · rw [if_neg hp]
        have : x.f2 + x.f3 * (n : Int) = 0 := by omega
        rw [this]; rfl
    · rw [lin_front _ _ c (fun y hy h => ?_), ih]
      · by_cases hr : x.f0 ≤ c ∧ c < x.f0 + (n : Int)
        · rw [if_pos hr, if_pos (by omega)]
        · rw [if_neg hr, if_neg (by omega)]
      · split at hy
        · obtain rfl := List.mem_singleton.1 hy
          unfold partP at h
          dsimp only at h
          omega
        · simp at hy
theorem parts_ord {x : S42} (hx : rightN x = true) {st : Int} (hst : st = 0 ∨ st = 1) : ordN (partsP x st) = true := by
  obtain ⟨a0, a1, a2, a3, a4, a5, a6⟩ := (right_iff x).1 hx
  unfold partsP
  split
  · split <;> rfl
  · exact partsL_ord hx hst _ (by omega)
theorem parts_lin {x : S42} (hx : rightN x = true) {st : Int} (hst : st = 0 ∨ st = 1) {c : Int} (h0 : x.f0 ≤ c) (h1 : c ≤ x.f1) : linN (partsP x st) c = x.f2 + x.f3 * (c - x.f0) := by
  obtain ⟨a0, a1, a2, a3, a4, a5, a6⟩ := (right_iff x).1 hx
  unfold partsP
  split
  · rename_i hone
    have hval : st * (c - x.f0) = x.f3 * (c - x.f0) := by
      rcases hone with h | h
      · rw [h]
      · rw [show c - x.f0 = 0 by omega, Int.mul_zero, Int.mul_zero]
    split
    · rename_i hhas
      have hm : (⟨x.f0, x.f1, x.f2, st⟩ : S42) ∈ partsP x st := by unfold partsP; rw [if_pos hone, if_pos hhas]; simp
      unfold linN
      rw [if_pos ⟨h0, h1⟩]
      show x.f2 + st * (c - x.f0) = _
      rw [hval]
    · rename_i hhas
      show (0 : Int) = _
      have h2 : x.f2 = 0 := by omega
      rcases a3 with h3 | h3
      · rw [h2, h3, Int.zero_mul]; rfl
      · rw [h2, h3, Int.one_mul]; omega
  · rw [partsL_lin hx hst c _ (by omega), if_pos (by omega)]
theorem split_ok {st : Int} (hst : st = 0 ∨ st = 1) : ∀ {l : List S42}, (∀ x ∈ l, rightN x = true) → ordN l = true → (∀ y ∈ splitL l st, rightN y = true ∧ y.f3 = st ∧ ∃ x ∈ l, x.f0 ≤ y.f0 ∧ y.f1 ≤ x.f1) ∧ ordN (splitL l st) = true ∧ ∀ c, linN (splitL l st) c = linN l c
  | [], _, _ => ⟨fun y hy => absurd hy (by simp [splitL]), rfl, fun c => rfl⟩
  | x :: r, hr, ho => by
    have hx := hr x List.mem_cons_self
    have hr' : ∀ y ∈ r, rightN y = true := fun y hy => hr y (List.mem_cons_of_mem _ hy)
    obtain ⟨i1, i2, i3⟩ := split_ok hst hr' (ord_cons ho)
    have hh := ord_head hr' ho
    have e : splitL (x :: r) st = partsP x st ++ splitL r st := by unfold splitL; rw [List.flatMap_cons]
    have hp := parts_ok hx hst
    have hlate : ∀ y ∈ splitL r st, x.f1 < y.f0 := fun y hy => by
      obtain ⟨_, _, z, hz, h1, h2⟩ := i1 y hy
      have := hh z hz
      omega
    rw [e]
    refine ⟨fun y hy => ?_, ord_app (fun y hy => (hp y hy).1) (fun y hy z hz => ?_) (parts_ord hx hst) i2, fun c => ?_⟩
    · rcases List.mem_append.1 hy with hy | hy
      · obtain ⟨q1, q2, q3, q4⟩ := hp y hy
        exact ⟨q1, q2, x, List.mem_cons_self, q3, q4⟩
      · obtain ⟨q1, q2, z, hz, q3, q4⟩ := i1 y hy
        exact ⟨q1, q2, z, List.mem_cons_of_mem _ hz, q3, q4⟩
    · have := hlate z hz
      have := (hp y hy).2.2.2
      omega
    · by_cases hc : x.f0 ≤ c ∧ c ≤ x.f1
      · rw [lin_front _ _ c (fun y hy h => by have := hlate y hy; omega), parts_lin hx hst hc.1 hc.2]
        conv => rhs; unfold linN
        rw [if_pos hc]
      · rw [lin_skip _ _ c (fun y hy h => by have := (hp y hy).2.2; omega), i3 c]
        conv => rhs; unfold linN
        rw [if_neg hc]
theorem split_good {l : List S42} {st : Int} {L : List S42} (h : splitN l st = (L, 0)) : isL l = true ∧ (st = 0 ∨ st = 1) ∧ isL L = true ∧ (∀ y ∈ L, y.f3 = st) ∧ ∀ c, lookN L c = lookN l c := by
  unfold splitN at h
  split at h
  · exact absurd (Prod.mk.inj h).2 (by decide)
  · rename_i hn
    have hi : isL l = true := by cases hh : isL l with | true => rfl | false => exact absurd (.inl hh) hn
    have hst : st = 0 ∨ st = 1 := by omega
    split at h
    · rename_i hle
      obtain ⟨rfl, _⟩ := Prod.mk.inj h
      obtain ⟨h1, h2, h3⟩ := isL_all hi
      obtain ⟨i1, i2, i3⟩ := split_ok hst h2 h3
      refine ⟨hi, hst, isL_mk hle (fun y hy => (i1 y hy).1) i2, fun y hy => (i1 y hy).2.1, fun c => ?_⟩
      rw [look_lin (fun y hy => (i1 y hy).1) i2, look_lin h2 h3, i3]
    · exact absurd (Prod.mk.inj h).2 (by decide)
theorem w4_at (pre : List UInt8) (v : Int) (r : List UInt8) (h0 : 0 ≤ v) (h1 : v ≤ 4294967295) (p : Nat) (hp : pre.length = p) : w4 ⟨(pre ++ (bytesN v 4 ++ r)).toArray⟩ p = v := by
  unfold w4
  rw [← hp, ba_drop]
  exact take_bytes (s := 4) (by decide) (fits4 h0 h1) r
theorem headB_parts (f n : Int) : headB f n = bytesN f 2 ++ (bytesN 0 2 ++ (bytesN (16 + 12 * n) 4 ++ (bytesN 0 4 ++ (bytesN n 4 ++ [])))) := rfl
theorem get_putG {L : List S42} {f : Int} (hL : isL L = true) (hf : f = 12 ∨ f = 13) (hst : ∀ y ∈ L, y.f3 = 13 - f) (more : List UInt8) : getG ⟨(headB f (L.length : Int) ++ spansB L ++ more).toArray⟩ = (L, 0) := by
  obtain ⟨hlen, hr, _⟩ := isL_all hL
  obtain ⟨s, hs⟩ : ∃ s : ByteArray, s = ⟨(headB f (L.length : Int) ++ spansB L ++ more).toArray⟩ := ⟨_, rfl⟩
  have hsz : s.size = 16 + 12 * L.length + more.length := by
    rw [hs, ba_size, List.length_append, List.length_append, headB_length, spansB_length]
  have e0 : w2 s 0 = f := by
    rw [hs, headB_parts]
    have := w2_at [] f (bytesN 0 2 ++ (bytesN (16 + 12 * (L.length : Int)) 4 ++ (bytesN 0 4 ++ (bytesN (L.length : Int) 4 ++ []))) ++ spansB L ++ more) (by omega) (by omega) 0 rfl
    simpa only [List.nil_append, List.append_assoc] using this
  have e4 : w4 s 4 = 16 + 12 * (L.length : Int) := by
    rw [hs, headB_parts]
    have := w4_at (bytesN f 2 ++ bytesN 0 2) (16 + 12 * (L.length : Int)) (bytesN 0 4 ++ (bytesN (L.length : Int) 4 ++ []) ++ spansB L ++ more) (by omega) (by omega) 4 (by rw [List.length_append, bytesN_length, bytesN_length])
    simpa only [List.append_assoc] using this
  have e12 : w4 s 12 = (L.length : Int) := by
    rw [hs, headB_parts]
    have := w4_at (bytesN f 2 ++ (bytesN 0 2 ++ (bytesN (16 + 12 * (L.length : Int)) 4 ++ bytesN 0 4))) (L.length : Int) ([] ++ spansB L ++ more) (by omega) (by omega) 12 (by simp [bytesN_length])
    simpa only [List.append_assoc] using this
  have hsp : spansG s L.length (13 - f) = L := by
    apply List.ext_getElem
    · simp [spansG]
    · intro i h1 h2
      have hx := hr _ (List.getElem_mem h2)
      obtain ⟨a0, a1, a2, a3, a4, a5, a6⟩ := (right_iff L[i]).1 hx
      have h3 := hst _ (List.getElem_mem h2)
      have hcut : spansB L = spansB (L.take i) ++ (spanB L[i] ++ spansB (L.drop (i + 1))) := by
        unfold spansB
        conv => lhs; rw [← List.take_append_drop i L, List.drop_eq_getElem_cons h2]
        rw [List.flatMap_append, List.flatMap_cons]
      have hpl : (headB f (L.length : Int) ++ spansB (L.take i)).length = 16 + 12 * i := by
        rw [List.length_append, headB_length, spansB_length, List.length_take]; omega
      have hse : s = ⟨((headB f (L.length : Int) ++ spansB (L.take i)) ++ (spanB L[i] ++ (spansB (L.drop (i + 1)) ++ more))).toArray⟩ := by
        rw [hs, hcut]; simp only [List.append_assoc]
      have f0 : w4 s (16 + 12 * i) = L[i].f0 := by
        rw [hse]
        have := w4_at (headB f (L.length : Int) ++ spansB (L.take i)) L[i].f0 (bytesN L[i].f1 4 ++ (bytesN L[i].f2 4 ++ []) ++ (spansB (L.drop (i + 1)) ++ more)) a0 (by omega) _ hpl
        unfold spanB
        simpa only [List.append_assoc] using this
      have f1 : w4 s (20 + 12 * i) = L[i].f1 := by
        rw [hse]
        have := w4_at (headB f (L.length : Int) ++ spansB (L.take i) ++ bytesN L[i].f0 4) L[i].f1 (bytesN L[i].f2 4 ++ [] ++ (spansB (L.drop (i + 1)) ++ more)) (by omega) (by omega) (20 + 12 * i) (by rw [List.length_append, hpl, bytesN_length]; omega)
        unfold spanB
        simpa only [List.append_assoc] using this
      have f2 : w4 s (24 + 12 * i) = L[i].f2 := by
        rw [hse]
        have := w4_at (headB f (L.length : Int) ++ spansB (L.take i) ++ bytesN L[i].f0 4 ++ bytesN L[i].f1 4) L[i].f2 ([] ++ (spansB (L.drop (i + 1)) ++ more)) a4 (by omega) (24 + 12 * i) (by rw [List.length_append, List.length_append, hpl, bytesN_length, bytesN_length]; omega)
        unfold spanB
        simpa only [List.append_assoc] using this
      simp only [spansG, List.getElem_map, List.getElem_range]
      rw [f0, f1, f2, ← h3]
  rw [← hs]
  unfold getG
  rw [if_neg (by omega), if_neg (by rw [e0]; omega), if_neg (by rw [e12]; omega), if_neg (by rw [e4, e12]; omega), if_neg (by rw [e4]; omega), e0, e12, Int.toNat_natCast, hsp, if_pos hL]
end Go.Proofs.Ytgifenlfklbdgaa.P
