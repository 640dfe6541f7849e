/-
  cncref02.Parse and fixed.Parse compute the same. No condition.
-/
import Derived.Test.YtiphekdahmiaeaaDoorLex05
namespace Go.Proofs.YtiphekdahmiaeaaDoor
open Go Go.RowKit
set_option linter.unusedVariables false

theorem fr_stop (m : Nat) (l : List UInt8) (k : Nat) (n : Int) (h : m < k) : fr m l k n = (k, n) := by
  cases l with
  | nil => rw [fr]
  | cons c l => rw [fr, if_neg (fun x => by omega)]
theorem fr_ge : ∀ (m : Nat) (l : List UInt8) (k : Nat) (n : Int), k ≤ (fr m l k n).1
  | m, [], k, n => by rw [fr]; exact Nat.le_refl _
  | m, c :: l, k, n => by
    rw [fr]
    split
    · exact Nat.le_of_succ_le (fr_ge m l (k + 1) _)
    · exact Nat.le_refl _
theorem scan_after : ∀ (l : List UInt8) (wh pt : Nat) (n : Int), pt ≤ 6 → scanR l wh pt true n =
    if (fr 6 l pt n).1 < pt + l.length ∨ 6 < (fr 6 l pt n).1 ∨ wh + (fr 6 l pt n).1 = 0 then none else some ((fr 6 l pt n).2 * p10 (6 - (fr 6 l pt n).1))
  | [], wh, pt, n, h => by
    rw [scanR, fr]
    simp only [List.length_nil, Nat.add_zero]
    by_cases h0 : wh + pt = 0
    · rw [if_pos h0, if_pos (.inr (.inr h0))]
    · rw [if_neg h0, if_neg (by omega)]
  | c :: l, wh, pt, n, h => by
    rw [scanR, if_neg (fun x => by cases x.2)]
    cases hd : dgt c
    · have hf : fr 6 (c :: l) pt n = (pt, n) := by rw [fr, hd, if_neg (fun x => by cases x.1)]
      rw [if_pos rfl, hf, if_pos (.inl (by simp))]
    · have hf : fr 6 (c :: l) pt n = fr 6 l (pt + 1) (10 * n + (c.toNat - 48)) := by rw [fr, hd, if_pos ⟨rfl, h⟩]
      rw [if_neg (by simp), if_pos rfl, hf]
      by_cases h6 : 6 < pt + 1
      · rw [if_pos h6, fr_stop 6 l (pt + 1) _ h6, if_pos (.inr (.inl h6))]
      · rw [if_neg h6, scan_after l wh (pt + 1) _ (by omega), List.length_cons, show pt + 1 + l.length = pt + (l.length + 1) by omega]
theorem scan_before : ∀ (l : List UInt8) (wh : Nat) (n : Int), wh ≤ 9 → scanR l wh 0 false n =
    if 9 < (fr 9 l wh n).1 then none else
    if (l.drop ((fr 9 l wh n).1 - wh)).head? = some 46 then scanR (l.drop ((fr 9 l wh n).1 - wh + 1)) (fr 9 l wh n).1 0 true (fr 9 l wh n).2
    else if (fr 9 l wh n).1 < wh + l.length ∨ (fr 9 l wh n).1 = 0 then none else some ((fr 9 l wh n).2 * p10 6)
  | [], wh, n, h => by
    rw [scanR, fr]
    simp only [Nat.sub_self, List.drop_nil, List.head?_nil, List.length_nil, Nat.add_zero]
    have c9 : ¬ 9 < wh := by omega
    by_cases h0 : wh = 0
    · simp [h0]
    · simp [h0, c9]
  | c :: l, wh, n, h => by
    rw [scanR]
    by_cases h46 : c.toNat = 46
    · have hc : c = 46 := UInt8.toNat_inj.1 (by simpa using h46)
      have hd : dgt c = false := by rw [hc]; rfl
      have hf : fr 9 (c :: l) wh n = (wh, n) := by rw [fr, hd, if_neg (fun x => by cases x.1)]
      rw [if_pos ⟨h46, rfl⟩, hf]
      simp only [Nat.sub_self, List.drop_zero, List.head?_cons]
      rw [if_neg (by omega), if_pos (by rw [hc])]
      rfl
    · rw [if_neg (fun x => h46 x.1)]
      cases hd : dgt c
      · have hf : fr 9 (c :: l) wh n = (wh, n) := by rw [fr, hd, if_neg (fun x => by cases x.1)]
        rw [if_pos rfl, hf]
        simp only [Nat.sub_self, List.drop_zero, List.head?_cons]
        rw [if_neg (by omega), if_neg (fun e => h46 (by injection e with e; rw [e]; rfl)), if_pos (.inl (by simp))]
      · have hf : fr 9 (c :: l) wh n = fr 9 l (wh + 1) (10 * n + (c.toNat - 48)) := by rw [fr, hd, if_pos ⟨rfl, h⟩]
        rw [if_neg (by simp), if_neg (by simp), hf]
        by_cases h9 : 9 < wh + 1
        · rw [if_pos h9, fr_stop 9 l (wh + 1) _ h9, if_pos h9]
        · rw [if_neg h9, scan_before l (wh + 1) _ (by omega)]
          have hge := fr_ge 9 l (wh + 1) (10 * n + ((c.toNat : Int) - 48))
          generalize fr 9 l (wh + 1) (10 * n + ((c.toNat : Int) - 48)) = q at *
          obtain ⟨k, m⟩ := q
          simp only at hge ⊢
          have e1 : (c :: l).drop (k - wh) = l.drop (k - (wh + 1)) := by rw [show k - wh = (k - (wh + 1)) + 1 by omega]; rfl
          have e2 : (c :: l).drop (k - wh + 1) = l.drop (k - (wh + 1) + 1) := by rw [show k - wh + 1 = (k - (wh + 1) + 1) + 1 by omega]; rfl
          rw [e1, e2, List.length_cons, show wh + 1 + l.length = wh + (l.length + 1) by omega]
theorem scan_parse (l : List UInt8) : scanR l 0 0 false 0 = parseF l := by
  rw [scan_before l 0 0 (by omega)]
  unfold parseF
  simp only [Nat.sub_zero, Nat.zero_add]
  split
  · rfl
  · split
    · rw [scan_after _ _ _ _ (by omega), Nat.zero_add]
    · rfl
end Go.Proofs.YtiphekdahmiaeaaDoor
