/- A part of the proof of the law GroupDoes: the words, contracts and plain facts that it needs, no more. Each says its own condition. -/
import Derived.Test.YtgifenlfklbdgaaZGroupDoesz
import Derived.Test.YtgifenlfklbdgaaZGroupDoesac
namespace Go.Proofs.Ytgifenlfklbdgaa.P
open Go.RowKit Go.Proofs.YtgifenlfklbdgaaW.PrintWords Go.Proofs.YtgifenlfklbdgaaW.PrintLast Go.Proofs.YtgifenlfklbdgaaW.PrintMore
set_option linter.unusedSimpArgs false
set_option linter.unusedVariables false
theorem w4_at (pre : List UInt8) (v : Int) (r : List UInt8) (h0 : 0 ≤ v) (h1 : v ≤ 4294967295) (p : Nat) (hp : pre.length = p) : w4 ⟨(pre ++ (bytesN v 4 ++ r)).toArray⟩ p = v := by
  unfold w4
  rw [← hp, ba_drop]
  exact take_bytes (s := 4) (by decide) (fits4 h0 h1) r
theorem headB_parts (f n : Int) : headB f n = bytesN f 2 ++ (bytesN 0 2 ++ (bytesN (16 + 12 * n) 4 ++ (bytesN 0 4 ++ (bytesN n 4 ++ [])))) := rfl
theorem get_putG {L : List S42} {f : Int} (hL : isL L = true) (hf : f = 12 ∨ f = 13) (hst : ∀ y ∈ L, y.f3 = 13 - f) (more : List UInt8) : getG ⟨(headB f (L.length : Int) ++ spansB L ++ more).toArray⟩ = (L, 0) := by
  obtain ⟨hlen, hr, _⟩ := isL_all hL
  obtain ⟨s, hs⟩ : ∃ s : ByteArray, s = ⟨(headB f (L.length : Int) ++ spansB L ++ more).toArray⟩ := ⟨_, rfl⟩
  have hsz : s.size = 16 + 12 * L.length + more.length := by
    rw [hs, ba_size, List.length_append, List.length_append, headB_length, spansB_length]
  have e0 : w2 s 0 = f := by
    rw [hs, headB_parts]
    have := w2_at [] f (bytesN 0 2 ++ (bytesN (16 + 12 * (L.length : Int)) 4 ++ (bytesN 0 4 ++ (bytesN (L.length : Int) 4 ++ []))) ++ spansB L ++ more) (by omega) (by omega) 0 rfl
    simpa only [List.nil_append, List.append_assoc] using this
  have e4 : w4 s 4 = 16 + 12 * (L.length : Int) := by
    rw [hs, headB_parts]
    have := w4_at (bytesN f 2 ++ bytesN 0 2) (16 + 12 * (L.length : Int)) (bytesN 0 4 ++ (bytesN (L.length : Int) 4 ++ []) ++ spansB L ++ more) (by omega) (by omega) 4 (by rw [List.length_append, bytesN_length, bytesN_length])
    simpa only [List.append_assoc] using this
  have e12 : w4 s 12 = (L.length : Int) := by
    rw [hs, headB_parts]
    have := w4_at (bytesN f 2 ++ (bytesN 0 2 ++ (bytesN (16 + 12 * (L.length : Int)) 4 ++ bytesN 0 4))) (L.length : Int) ([] ++ spansB L ++ more) (by omega) (by omega) 12 (by simp [bytesN_length])
    simpa only [List.append_assoc] using this
  have hsp : spansG s L.length (13 - f) = L := by
    apply List.ext_getElem
    · simp [spansG]
    · intro i h1 h2
      have hx := hr _ (List.getElem_mem h2)
      obtain ⟨a0, a1, a2, a3, a4, a5, a6⟩ := (right_iff L[i]).1 hx
      have h3 := hst _ (List.getElem_mem h2)
      have hcut : spansB L = spansB (L.take i) ++ (spanB L[i] ++ spansB (L.drop (i + 1))) := by
        unfold spansB
        conv => lhs; rw [← List.take_append_drop i L, List.drop_eq_getElem_cons h2]
        rw [List.flatMap_append, List.flatMap_cons]
      have hpl : (headB f (L.length : Int) ++ spansB (L.take i)).length = 16 + 12 * i := by
        rw [List.length_append, headB_length, spansB_length, List.length_take]; omega
      have hse : s = ⟨((headB f (L.length : Int) ++ spansB (L.take i)) ++ (spanB L[i] ++ (spansB (L.drop (i + 1)) ++ more))).toArray⟩ := by
        rw [hs, hcut]; simp only [List.append_assoc]
      have f0 : w4 s (16 + 12 * i) = L[i].f0 := by
        rw [hse]
        have := w4_at (headB f (L.length : Int) ++ spansB (L.take i)) L[i].f0 (bytesN L[i].f1 4 ++ (bytesN L[i].f2 4 ++ []) ++ (spansB (L.drop (i + 1)) ++ more)) a0 (by omega) _ hpl
        unfold spanB
        simpa only [List.append_assoc] using this
      have f1 : w4 s (20 + 12 * i) = L[i].f1 := by
        rw [hse]
        have := w4_at (headB f (L.length : Int) ++ spansB (L.take i) ++ bytesN L[i].f0 4) L[i].f1 (bytesN L[i].f2 4 ++ [] ++ (spansB (L.drop (i + 1)) ++ more)) (by omega) (by omega) (20 + 12 * i) (by rw [List.length_append, hpl, bytesN_length]; omega)
        unfold spanB
        simpa only [List.append_assoc] using this
      have f2 : w4 s (24 + 12 * i) = L[i].f2 := by
        rw [hse]
        have := w4_at (headB f (L.length : Int) ++ spansB (L.take i) ++ bytesN L[i].f0 4 ++ bytesN L[i].f1 4) L[i].f2 ([] ++ (spansB (L.drop (i + 1)) ++ more)) a4 (by omega) (24 + 12 * i) (by rw [List.length_append, List.length_append, hpl, bytesN_length, bytesN_length]; omega)
        unfold spanB
        simpa only [List.append_assoc] using this
      simp only [spansG, List.getElem_map, List.getElem_range]
      rw [f0, f1, f2, ← h3]
  rw [← hs]
  unfold getG
  rw [if_neg (by omega), if_neg (by rw [e0]; omega), if_neg (by rw [e12]; omega), if_neg (by rw [e4, e12]; omega), if_neg (by rw [e4]; omega), e0, e12, Int.toNat_natCast, hsp, if_pos hL]
end Go.Proofs.Ytgifenlfklbdgaa.P
