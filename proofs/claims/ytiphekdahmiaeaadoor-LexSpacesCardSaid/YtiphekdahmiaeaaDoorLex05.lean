/-
  The tokens of a line, in plain words: numbers, names, steps. No condition.
-/
import Derived.Test.YtiphekdahmiaeaaDoorBase
import Derived.Lib.Bytealg
import Derived.Lib.IndexLaws
namespace Go.Proofs.YtiphekdahmiaeaaDoor
open Go Go.RowKit
set_option linter.unusedVariables false

/-- The bytes of a string. -/
def bl (s : ByteArray) : List UInt8 := s.data.toList
def mkB (l : List UInt8) : ByteArray := ⟨l.toArray⟩
theorem bl_mkB (l : List UInt8) : bl (mkB l) = l := by simp [bl, mkB]
theorem mkB_bl (s : ByteArray) : mkB (bl s) = s := by cases s; simp [bl, mkB]
theorem bl_len (s : ByteArray) : (bl s).length = s.size := Array.length_toList
theorem toList_bl (s : ByteArray) : s.toList = bl s := ByteArray.toList_eq s
theorem bl_extract (s : ByteArray) (a b : Nat) : bl (s.extract a b) = ((bl s).drop a).take (b - a) := by
  conv => lhs; rw [← mkB_bl s]
  unfold mkB
  rw [ByteArray.extract_mk]
  simp [bl]
theorem bl_append (a b : ByteArray) : bl (a ++ b) = bl a ++ bl b := by simp [bl, ByteArray.data_append]
theorem extract_mkB (s : ByteArray) (a b : Nat) : s.extract a b = mkB (((bl s).drop a).take (b - a)) := by rw [← bl_extract, mkB_bl]
/-- The byte at an offset. -/
def byt (s : ByteArray) (i : Nat) : Int := ((bl s).getD i 0).toNat
theorem byt_bd (s : ByteArray) (i : Nat) : 0 ≤ byt s i ∧ byt s i ≤ 255 := by
  unfold byt
  have := ((bl s).getD i 0).toNat_lt
  omega
theorem byt_at (s : ByteArray) (i : Nat) (h : i < s.size) : byt s i = ((s[i]'h).toNat : Int) := by
  unfold byt bl
  have h' : i < s.data.toList.length := by have := bl_len s; unfold bl at this; omega
  rw [List.getD_eq_getElem?_getD, List.getElem?_eq_getElem h']
  rfl
theorem drop_byt (s : ByteArray) (i : Nat) (h : i < s.size) : ∃ c : UInt8, (bl s).drop i = c :: (bl s).drop (i + 1) ∧ byt s i = c.toNat := by
  have h' : i < (bl s).length := by rw [bl_len]; exact h
  refine ⟨(bl s)[i], List.drop_eq_getElem_cons h', ?_⟩
  unfold byt
  rw [List.getD_eq_getElem?_getD, List.getElem?_eq_getElem h']
  rfl

/-! ### Numbers -/
def digB (c : Int) : Bool := decide (48 ≤ c ∧ c ≤ 57)
def numB (c : Int) : Bool := digB c || decide (c = 46)
def sgnB (c : Int) : Bool := [43, 45, 42, 47, 61, 35, 91, 93].contains c
def dgt (c : UInt8) : Bool := digB c.toNat
def num (c : UInt8) : Bool := numB c.toNat
/-- The digits of a list, at most up to a count; the count, the value. -/
def fr : Nat → List UInt8 → Nat → Int → Nat × Int
  | _, [], k, n => (k, n)
  | m, c :: l, k, n => if dgt c = true ∧ k ≤ m then fr m l (k + 1) (10 * n + (c.toNat - 48)) else (k, n)
def p10 (k : Nat) : Int := (10 : Int) ^ k
/-- What fixed.Parse computes. -/
def parseF (l : List UInt8) : Option Int :=
  if 9 < (fr 9 l 0 0).1 then none else
  if (l.drop (fr 9 l 0 0).1).head? = some 46 then
    (if (fr 6 (l.drop ((fr 9 l 0 0).1 + 1)) 0 (fr 9 l 0 0).2).1 < (l.drop ((fr 9 l 0 0).1 + 1)).length ∨ 6 < (fr 6 (l.drop ((fr 9 l 0 0).1 + 1)) 0 (fr 9 l 0 0).2).1 ∨ (fr 9 l 0 0).1 + (fr 6 (l.drop ((fr 9 l 0 0).1 + 1)) 0 (fr 9 l 0 0).2).1 = 0 then none
    else some ((fr 6 (l.drop ((fr 9 l 0 0).1 + 1)) 0 (fr 9 l 0 0).2).2 * p10 (6 - (fr 6 (l.drop ((fr 9 l 0 0).1 + 1)) 0 (fr 9 l 0 0).2).1)))
  else if (fr 9 l 0 0).1 < l.length ∨ (fr 9 l 0 0).1 = 0 then none else some ((fr 9 l 0 0).2 * p10 6)
/-- What cncref02.Parse computes. -/
def scanR : List UInt8 → Nat → Nat → Bool → Int → Option Int
  | [], wh, pt, _, n => if wh + pt = 0 then none else some (n * p10 (6 - pt))
  | c :: l, wh, pt, p, n =>
    if c.toNat = 46 ∧ p = false then scanR l wh pt true n
    else if dgt c = false then none
    else if p = true then (if 6 < pt + 1 then none else scanR l wh (pt + 1) p (10 * n + (c.toNat - 48)))
    else (if 9 < wh + 1 then none else scanR l (wh + 1) pt p (10 * n + (c.toNat - 48)))
theorem fr_drop {s : ByteArray} {m k i : Nat} {n : Int} (h : i < s.size) : fr m ((bl s).drop i) k n = if digB (byt s i) = true ∧ k ≤ m then fr m ((bl s).drop (i + 1)) (k + 1) (10 * n + (byt s i - 48)) else (k, n) := by
  obtain ⟨c, e1, e2⟩ := drop_byt s i h
  rw [e1, fr, e2]
  rfl
theorem fr_end {s : ByteArray} {m k i : Nat} {n : Int} (h : s.size ≤ i) : fr m ((bl s).drop i) k n = (k, n) := by
  rw [List.drop_eq_nil_of_le (by rw [bl_len]; exact h), fr]
theorem p10_succ (k : Nat) : p10 (k + 1) = 10 * p10 k := by unfold p10; rw [Int.pow_succ]; omega
theorem p10_mono {a b : Nat} (h : a ≤ b) : p10 a ≤ p10 b := by
  induction b with
  | zero => obtain rfl : a = 0 := by omega
            exact Int.le_refl _
  | succ b ih =>
    by_cases e : a = b + 1
    · subst e; exact Int.le_refl _
    · have h1 := ih (by omega)
      have h2 : 0 ≤ p10 b := by unfold p10; exact Int.pow_nonneg (by decide)
      rw [p10_succ]
      omega
theorem p10_pos (k : Nat) : 1 ≤ p10 k := by have := p10_mono (Nat.zero_le k); exact this
theorem scanR_drop {s : ByteArray} {wh pt i : Nat} {p : Bool} {n : Int} (h : i < s.size) : scanR ((bl s).drop i) wh pt p n =
    if byt s i = 46 ∧ p = false then scanR ((bl s).drop (i + 1)) wh pt true n
    else if digB (byt s i) = false then none
    else if p = true then (if 6 < pt + 1 then none else scanR ((bl s).drop (i + 1)) wh (pt + 1) p (10 * n + (byt s i - 48)))
    else (if 9 < wh + 1 then none else scanR ((bl s).drop (i + 1)) (wh + 1) pt p (10 * n + (byt s i - 48))) := by
  obtain ⟨c, e1, e2⟩ := drop_byt s i h
  rw [e1, scanR, e2]
  have : (c.toNat = 46) ↔ ((c.toNat : Int) = 46) := by omega
  simp only [this]
  rfl
theorem scanR_end {s : ByteArray} {wh pt i : Nat} {p : Bool} {n : Int} (h : s.size ≤ i) : scanR ((bl s).drop i) wh pt p n = if wh + pt = 0 then none else some (n * p10 (6 - pt)) := by
  rw [List.drop_eq_nil_of_le (by rw [bl_len]; exact h), scanR]

/-! ### Names -/
def namesL : List (List UInt8) := [[73, 70], [71, 79, 84, 79], [87, 72, 73, 76, 69], [68, 79], [69, 78, 68], [69, 81], [78, 69], [71, 84], [71, 69], [76, 84], [76, 69], [65, 78, 68], [79, 82], [88, 79, 82], [77, 79, 68], [83, 73, 78], [67, 79, 83], [84, 65, 78], [65, 84, 65, 78], [83, 81, 82, 84], [65, 66, 83], [82, 79, 85, 78, 68], [70, 73, 88], [70, 85, 80]]
def nmB (i : Nat) : ByteArray := mkB (namesL.getD i [])
def longG (l : List UInt8) : List (List UInt8) → List UInt8 → List UInt8
  | [], best => best
  | nm :: ns, best => longG l ns (if best.length < nm.length ∧ nm.isPrefixOf l = true then nm else best)
def longest (l : List UInt8) : List UInt8 := longG l namesL []
theorem longG_drop {l best : List UInt8} {i : Nat} (h : i < 24) : longG l (namesL.drop i) best = longG l (namesL.drop (i + 1)) (if best.length < (nmB i).size ∧ (bl (nmB i)).isPrefixOf l = true then bl (nmB i) else best) := by
  have h' : i < namesL.length := h
  rw [List.drop_eq_getElem_cons h', longG]
  have e : bl (nmB i) = namesL[i] := by
    unfold nmB
    rw [bl_mkB, List.getD_eq_getElem?_getD, List.getElem?_eq_getElem h']
    rfl
  rw [← bl_len, e]
def isName (l : List UInt8) : Bool := namesL.contains l
theorem isName_no {s : ByteArray} {i : Nat} (h : ∀ k, k < i → bl s ≠ bl (nmB k)) (hi : 24 ≤ i) : isName (bl s) = false := by
  unfold isName
  rw [List.contains_eq_mem, decide_eq_false_iff_not]
  intro hm
  obtain ⟨k, hk, e⟩ := List.mem_iff_getElem.1 hm
  have hk' : k < 24 := hk
  refine h k (by omega) ?_
  unfold nmB
  rw [bl_mkB, List.getD_eq_getElem?_getD, List.getElem?_eq_getElem hk]
  exact e.symm
theorem isName_yes {s : ByteArray} {i : Nat} (h : bl s = bl (nmB i)) (hi : i < 24) : isName (bl s) = true := by
  unfold isName
  rw [List.contains_eq_mem, decide_eq_true_iff, h]
  unfold nmB
  have hk : i < namesL.length := hi
  rw [bl_mkB, List.getD_eq_getElem?_getD, List.getElem?_eq_getElem hk]
  exact List.getElem_mem hk
end Go.Proofs.YtiphekdahmiaeaaDoor
