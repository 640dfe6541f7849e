/-
  Numbers in plain words: which strings are coordinates in the form that is written, and what strconv.Atoi says of them. No program's function is named in it. No condition.
-/
import Derived.Test.YtlpmbjgimllmgaaDoorPlan16
import Derived.Lib.AtoiAllCases
namespace Go.Proofs.YtlpmbjgimllmgaaDoor
open Go Go.RowKit
set_option linter.unusedVariables false

def negB (l : List UInt8) : Bool := l.head? == some 45
def digsF (l : List UInt8) : List UInt8 := if negB l = true then l.drop 1 else l
def formB (l : List UInt8) : Bool := decide (digsF l ≠ [] ∧ (digsF l).length ≤ 10 ∧ ((digsF l).head? = some 48 → l = [48]))
/-- The number that a word stands for. -/
def numF (l : List UInt8) : Option Int := if formB l = true then (scanD (digsF l) 0).map fun n => if negB l = true then -n else n else none
theorem dgt_not {c : UInt8} (h : dgt c = true) : c ≠ 45 := by
  rintro rfl
  exact absurd (dgt_bd h) (by decide)
theorem num_itoa {z : Int} (h : z.natAbs < 10 ^ 10) : numF (Lib.itoa z) = some z := by
  unfold Lib.itoa
  split
  · rename_i hz
    have hd := dec_dgt z.natAbs
    have hl := dec_most 9 z.natAbs h
    obtain ⟨c, r, e, hc⟩ := dec_head (n := z.natAbs) (by omega)
    have hv := dec_val z.natAbs
    have hn : negB (45 :: Lib.decDigits z.natAbs) = true := rfl
    have hg : digsF (45 :: Lib.decDigits z.natAbs) = Lib.decDigits z.natAbs := by unfold digsF; rw [if_pos hn]; rfl
    have hf : formB (45 :: Lib.decDigits z.natAbs) = true := by
      unfold formB
      rw [hg]
      refine decide_eq_true ⟨by rw [e]; simp, hl, fun h48 => ?_⟩
      rw [e] at h48
      exact absurd (by simpa using h48) hc
    unfold numF
    rw [if_pos hf, hg, scanD_all _ hd, hv, hn]
    simp
    omega
  · rename_i hz
    have hd := dec_dgt z.toNat
    have hl := dec_most 9 z.toNat (by omega)
    have hv := dec_val z.toNat
    have h1 := dec_len z.toNat
    have hn : negB (Lib.decDigits z.toNat) = false := by
      unfold negB
      cases e : Lib.decDigits z.toNat with
      | nil => rfl
      | cons c r =>
        have := dgt_not (hd c (by rw [e]; simp))
        simpa using this
    have hg : digsF (Lib.decDigits z.toNat) = Lib.decDigits z.toNat := by unfold digsF; rw [hn]; rfl
    have hf : formB (Lib.decDigits z.toNat) = true := by
      unfold formB
      rw [hg]
      refine decide_eq_true ⟨fun e => by rw [e] at h1; simp at h1, hl, fun h48 => ?_⟩
      by_cases h0 : z.toNat = 0
      · rw [h0, Lib.decDigits, dif_pos (by omega)]
        rfl
      · obtain ⟨c, r, e, hc⟩ := dec_head (n := z.toNat) (by omega)
        rw [e] at h48
        exact absurd (by simpa using h48) hc
    unfold numF
    rw [if_pos hf, hg, scanD_all _ hd, hv, hn]
    simp
    omega
theorem num_back {l : List UInt8} {z : Int} (h : numF l = some z) : Lib.itoa z = l := by
  unfold numF at h
  split at h
  case isFalse => cases h
  case isTrue hf =>
  have hf : digsF l ≠ [] ∧ (digsF l).length ≤ 10 ∧ ((digsF l).head? = some 48 → l = [48]) := of_decide_eq_true hf
  obtain ⟨f1, f2, f3⟩ := hf
  rw [Option.map_eq_some_iff] at h
  obtain ⟨v, hv, e⟩ := h
  obtain ⟨hd, rfl⟩ := scanD_some hv
  have hb := dec_back (digsF l) hd f1 (fun h48 => by
    have := f3 h48
    subst this
    rfl)
  have hlt := (valL_lt (digsF l) (n := 0) (k := 0) (by omega) (by decide) hd).1
  cases hn : negB l
  · have hg : digsF l = l := by unfold digsF; rw [hn]; rfl
    rw [hn] at e
    simp only [Bool.false_eq_true, if_false] at e
    subst e
    unfold Lib.itoa
    rw [if_neg (by omega), hb, hg]
  · obtain ⟨r, rfl⟩ : ∃ r, l = 45 :: r := by
      unfold negB at hn
      cases l with
      | nil => cases hn
      | cons c r => simp at hn; exact ⟨r, by rw [hn]⟩
    have hg : digsF (45 :: r) = r := by unfold digsF; rw [hn]; rfl
    rw [hn] at e
    simp only [if_true] at e
    subst e
    rw [hg] at f1 f2 f3 hd hb hlt
    rw [hg]
    obtain ⟨c, r', rfl⟩ : ∃ c r', r = c :: r' := by
      cases r with
      | nil => exact absurd rfl f1
      | cons c r' => exact ⟨c, r', rfl⟩
    have hc := dgt_bd (hd c List.mem_cons_self)
    have hc48 : c ≠ 48 := by
      rintro rfl
      have := f3 rfl
      simp at this
    have hc48' : c.toNat ≠ 48 := fun e => hc48 (UInt8.toNat_inj.1 e)
    have h1 : 1 ≤ valL (c :: r') 0 := by
      rw [valL]
      exact valL_ge r' (by omega) fun d hd' => hd d (List.mem_cons_of_mem _ hd')
    unfold Lib.itoa
    rw [if_pos (by omega), show (-valL (c :: r') 0).natAbs = (valL (c :: r') 0).toNat by omega, hb]
theorem itoa_32 (z : Int) : (32 : UInt8) ∉ Lib.itoa z := itoa_no (by decide) (by decide)
theorem itoa_10 (z : Int) : (10 : UInt8) ∉ Lib.itoa z := itoa_no (by decide) (by decide)
/-- The coordinate that a word stands for. -/
def readF (l : List UInt8) : Option Int := (numF l).bind fun z => if inC z then some z else none
theorem read_iff {l : List UInt8} {z : Int} : readF l = some z ↔ inC z ∧ Lib.itoa z = l := by
  have e10 : (10 : Nat) ^ 10 = 10000000000 := by decide
  unfold readF
  constructor
  · intro h
    obtain ⟨y, hy, h2⟩ := Option.bind_eq_some_iff.1 h
    split at h2
    · rename_i hc
      injection h2 with h2
      subst h2
      exact ⟨hc, num_back hy⟩
    · cases h2
  · rintro ⟨h1, rfl⟩
    rw [num_itoa (by obtain ⟨h2, h3⟩ := h1; omega), Option.bind_some, if_pos h1]
theorem valL_mono : ∀ (l : List UInt8) {n : Int}, 0 ≤ n → (∀ c ∈ l, dgt c = true) → n ≤ valL l n
  | [], n, h, _ => Int.le_refl n
  | c :: l, n, h, hd => by
    have hb := dgt_bd (hd c List.mem_cons_self)
    have := valL_mono l (n := 10 * n + ((c.toNat : Int) - 48)) (by omega) fun d hd' => hd d (List.mem_cons_of_mem _ hd')
    rw [valL]
    omega
theorem pu_ok (l : List UInt8) : ∀ (acc : Nat), (∀ c ∈ l, dgt c = true) → valL l (acc : Int) < 1000000000 → Lib.parseUint10 acc l = .ok (valL l (acc : Int)).toNat := by
  induction l with
  | nil =>
    intro acc _ _
    simp only [Lib.parseUint10]
    congr 1
  | cons c l ih =>
    intro acc hd hv
    have hc := dgt_bd (hd c List.mem_cons_self)
    have e0 : valL (c :: l) (acc : Int) = valL l (10 * (acc : Int) + ((c.toNat : Int) - 48)) := rfl
    have e : 10 * (acc : Int) + ((c.toNat : Int) - 48) = ((acc * 10 + (c.toNat - 48) : Nat) : Int) := by omega
    rw [e0, e] at hv ⊢
    have hge : ((acc * 10 + (c.toNat - 48) : Nat) : Int) ≤ valL l ((acc * 10 + (c.toNat - 48) : Nat) : Int) := valL_mono l (by omega) fun d hd' => hd d (List.mem_cons_of_mem _ hd')
    simp only [Lib.parseUint10]
    rw [if_pos hc, if_neg (by omega), if_neg (by omega)]
    exact ih _ (fun d hd' => hd d (List.mem_cons_of_mem _ hd')) hv
theorem atoi_itoa {z : Int} (h : inC z) : Lib.atoiAll (Lib.itoa z) = .ok z := by
  obtain ⟨h1, h2⟩ := h
  by_cases h0 : z < 0
  · have e : Lib.itoa z = 45 :: Lib.decDigits z.natAbs := by unfold Lib.itoa; rw [if_pos h0]
    have hd := dec_dgt z.natAbs
    have hv := dec_val z.natAbs
    have hl := dec_len z.natAbs
    rw [e, Lib.atoiAll_minus]
    have hp : Lib.parseMag (Lib.decDigits z.natAbs) = .ok z.natAbs := by
      unfold Lib.parseMag
      rw [if_neg (fun e => by rw [e] at hl; simp at hl)]
      have := pu_ok (Lib.decDigits z.natAbs) 0 hd (by rw [show ((0 : Nat) : Int) = 0 from rfl, hv]; omega)
      rw [this, show ((0 : Nat) : Int) = 0 from rfl, hv]
      congr 1
    rw [hp]
    show (if 9223372036854775808 < z.natAbs then _ else _) = _
    rw [if_neg (by omega)]
    congr 1
    omega
  · have e : Lib.itoa z = Lib.decDigits z.toNat := by unfold Lib.itoa; rw [if_neg h0]
    have hd := dec_dgt z.toNat
    have hv := dec_val z.toNat
    have hl := dec_len z.toNat
    rw [e]
    obtain ⟨c, r, hcr⟩ : ∃ c r, Lib.decDigits z.toNat = c :: r := by
      cases h : Lib.decDigits z.toNat with
      | nil => rw [h] at hl; simp at hl
      | cons c r => exact ⟨c, r, rfl⟩
    have hc := dgt_bd (hd c (by rw [hcr]; exact List.mem_cons_self))
    have hp : Lib.parseMag (Lib.decDigits z.toNat) = .ok z.toNat := by
      unfold Lib.parseMag
      rw [if_neg (fun e => by rw [e] at hl; simp at hl)]
      have := pu_ok (Lib.decDigits z.toNat) 0 hd (by rw [show ((0 : Nat) : Int) = 0 from rfl, hv]; omega)
      rw [this, show ((0 : Nat) : Int) = 0 from rfl, hv]
      congr 1
    rw [hcr] at hp ⊢
    rw [Lib.atoiAll_plain c r (by omega) (by omega), hp]
    show (if 9223372036854775808 ≤ z.toNat then _ else _) = _
    rw [if_neg (by omega)]
    congr 1
    omega
theorem valL_pow : ∀ (l : List UInt8) (n : Int), 0 ≤ n → (∀ c ∈ l, dgt c = true) → n * (10 : Int) ^ l.length ≤ valL l n
  | [], n, _, _ => by simp [valL]
  | c :: l, n, h0, hd => by
    have hc := dgt_bd (hd c List.mem_cons_self)
    have ih := valL_pow l (10 * n + ((c.toNat : Int) - 48)) (by omega) fun d hd' => hd d (List.mem_cons_of_mem _ hd')
    rw [valL, List.length_cons, Int.pow_succ]
    have h2 : n * ((10 : Int) ^ l.length * 10) = (10 * n) * (10 : Int) ^ l.length := by
      rw [Int.mul_comm ((10 : Int) ^ l.length) 10, ← Int.mul_assoc, Int.mul_comm n 10]
    rw [h2]
    have h3 : (10 * n) * (10 : Int) ^ l.length ≤ (10 * n + ((c.toNat : Int) - 48)) * (10 : Int) ^ l.length :=
      Int.mul_le_mul_of_nonneg_right (by omega) (Int.pow_nonneg (by decide))
    exact Int.le_trans h3 ih
/-- Digits without a zero ahead that spell less than 10^10 are at most ten. -/
theorem few_digits {c : UInt8} {l : List UInt8} (hd : ∀ x ∈ c :: l, dgt x = true) (hc : c ≠ 48) (hv : valL (c :: l) 0 < 10000000000) : (c :: l).length ≤ 10 := by
  have hb := dgt_bd (hd c List.mem_cons_self)
  have hc' : c.toNat ≠ 48 := fun e => hc (UInt8.toNat_inj.1 e)
  rw [valL] at hv
  have h1 := valL_pow l (10 * 0 + ((c.toNat : Int) - 48)) (by omega) fun d hd' => hd d (List.mem_cons_of_mem _ hd')
  have h2 : (10 : Int) ^ l.length ≤ (10 * 0 + ((c.toNat : Int) - 48)) * (10 : Int) ^ l.length := by
    have := Int.mul_le_mul_of_nonneg_right (show (1 : Int) ≤ 10 * 0 + ((c.toNat : Int) - 48) by omega) (Int.pow_nonneg (by decide) : (0 : Int) ≤ 10 ^ l.length)
    rwa [Int.one_mul] at this
  have h3 : (10 : Int) ^ l.length < 10000000000 := by omega
  rcases Nat.lt_or_ge l.length 10 with h | h
  · simp; omega
  · exfalso
    have h4 : (10 : Int) ^ 10 ≤ (10 : Int) ^ l.length := by
      obtain ⟨d, hd2⟩ : ∃ d, l.length = 10 + d := ⟨l.length - 10, by omega⟩
      rw [hd2, Int.pow_add]
      have h5 : (1 : Int) ≤ (10 : Int) ^ d := by
        have : (0 : Int) < (10 : Int) ^ d := Int.pow_pos (by decide)
        omega
      have h6 := Int.mul_le_mul_of_nonneg_left h5 (show (0 : Int) ≤ (10 : Int) ^ 10 by decide)
      rwa [Int.mul_one] at h6
    have h7 : (10 : Int) ^ 10 = 10000000000 := by decide
    omega
/-- What a reader says who has read all digits. -/
theorem read_done {l : List UInt8} {v : Int} (h1 : digsF l ≠ []) (h2 : (digsF l).head? = some 48 → l = [48]) (hv : scanD (digsF l) 0 = some v) (hm : v ≤ 1048576) : readF l = some (if negB l = true then -v else v) := by
  obtain ⟨hd, rfl⟩ := scanD_some hv
  have h0 := (valL_lt (digsF l) (n := 0) (k := 0) (by omega) (by decide) hd).1
  have hlen : (digsF l).length ≤ 10 := by
    cases hD : digsF l with
    | nil => simp
    | cons c r =>
      by_cases hc : c = 48
      · subst hc
        have := h2 (by rw [hD]; rfl)
        subst this
        have hD2 : digsF [48] = [48] := rfl
        rw [hD2] at hD
        injection hD with _ hD
        rw [← hD]
        simp
      · rw [hD] at hd hm
        exact few_digits hd hc (by omega)
  have hf : formB l = true := decide_eq_true ⟨h1, hlen, h2⟩
  unfold readF numF
  rw [if_pos hf, hv, Option.map_some, Option.bind_some]
  have hin : inC (if negB l = true then - valL (digsF l) 0 else valL (digsF l) 0) := by
    unfold inC
    split <;> omega
  rw [if_pos hin]
theorem read_big {l : List UInt8} {v : Int} (hv : scanD (digsF l) 0 = some v) (hm : 1048576 < v) : readF l = none := by
  unfold readF numF
  split
  · rw [hv, Option.map_some, Option.bind_some]
    rw [if_neg]
    unfold inC
    split <;> omega
  · rfl
theorem read_none {l : List UInt8} (hv : scanD (digsF l) 0 = none) : readF l = none := by
  unfold readF numF
  split
  · rw [hv]; rfl
  · rfl
theorem read_form {l : List UInt8} (h : digsF l = [] ∨ (digsF l).head? = some 48 ∧ l ≠ [48]) : readF l = none := by
  unfold readF numF
  rw [if_neg]
  · rfl
  · unfold formB
    rw [decide_eq_true_eq]
    rintro ⟨h1, h2, h3⟩
    rcases h with h | ⟨h4, h5⟩
    · exact h1 h
    · exact h5 (h3 h4)
/-- A number that is too great with digits to come stays too great. -/
theorem scan_great {r : List UInt8} {n v : Int} (hn : 104857 < n) (hr : r ≠ []) (h : scanD r n = some v) : 1048576 < v := by
  obtain ⟨hd, rfl⟩ := scanD_some h
  cases r with
  | nil => exact absurd rfl hr
  | cons c r =>
    have hb := dgt_bd (hd c List.mem_cons_self)
    rw [valL]
    have : 10 * n + ((c.toNat : Int) - 48) ≤ valL r (10 * n + ((c.toNat : Int) - 48)) := valL_mono r (by omega) fun d hd' => hd d (List.mem_cons_of_mem _ hd')
    omega
end Go.Proofs.YtlpmbjgimllmgaaDoor
