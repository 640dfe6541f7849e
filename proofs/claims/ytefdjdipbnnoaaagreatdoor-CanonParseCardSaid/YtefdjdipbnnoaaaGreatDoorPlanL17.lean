/-
  Numbers in plain words: which strings are coordinates in the form that is written, and what strconv.Atoi says of them. No program's function is named in it. No condition.
  Texts of lists of items in plain words: the item of a line, the list of a text or why there is none. No program's function is named in it. No condition.
  Texts of lists of items in plain words: the list of a text or why there is none, by lines. No program's function is named in it. No condition.
-/
import Derived.Test.YtefdjdipbnnoaaaGreatDoorPlanF17
import Derived.Lib.AtoiAllCases
import Derived.Lib.SplitLaws
namespace Go.Proofs.YtefdjdipbnnoaaaGreatDoor
open Go Go.RowKit
set_option linter.unusedVariables false

def negB (l : List UInt8) : Bool := l.head? == some 45
def digsF (l : List UInt8) : List UInt8 := if negB l = true then l.drop 1 else l
def formB (l : List UInt8) : Bool := decide (digsF l ≠ [] ∧ (digsF l).length ≤ 10 ∧ ((digsF l).head? = some 48 → l = [48]))
/-- The number that a word stands for. -/
def numF (l : List UInt8) : Option Int := if formB l = true then (scanD (digsF l) 0).map fun n => if negB l = true then -n else n else none
theorem dgt_not {c : UInt8} (h : dgt c = true) : c ≠ 45 := by
  rintro rfl
  exact absurd (dgt_bd h) (by decide)
theorem num_itoa {z : Int} (h : z.natAbs < 10 ^ 10) : numF (Lib.itoa z) = some z := by
  unfold Lib.itoa
  split
  · rename_i hz
    have hd := dec_dgt z.natAbs
    have hl := dec_most 9 z.natAbs h
    obtain ⟨c, r, e, hc⟩ := dec_head (n := z.natAbs) (by omega)
    have hv := dec_val z.natAbs
    have hn : negB (45 :: Lib.decDigits z.natAbs) = true := rfl
    have hg : digsF (45 :: Lib.decDigits z.natAbs) = Lib.decDigits z.natAbs := by unfold digsF; rw [if_pos hn]; rfl
    have hf : formB (45 :: Lib.decDigits z.natAbs) = true := by
      unfold formB
      rw [hg]
      refine decide_eq_true ⟨by rw [e]; simp, hl, fun h48 => ?_⟩
      rw [e] at h48
      exact absurd (by simpa using h48) hc
    unfold numF
    rw [if_pos hf, hg, scanD_all _ hd, hv, hn]
    simp
    omega
  · rename_i hz
    have hd := dec_dgt z.toNat
    have hl := dec_most 9 z.toNat (by omega)
    have hv := dec_val z.toNat
    have h1 := dec_len z.toNat
    have hn : negB (Lib.decDigits z.toNat) = false := by
      unfold negB
      cases e : Lib.decDigits z.toNat with
      | nil => rfl
      | cons c r =>
        have := dgt_not (hd c (by rw [e]; simp))
        simpa using this
    have hg : digsF (Lib.decDigits z.toNat) = Lib.decDigits z.toNat := by unfold digsF; rw [hn]; rfl
    have hf : formB (Lib.decDigits z.toNat) = true := by
      unfold formB
      rw [hg]
      refine decide_eq_true ⟨fun e => by rw [e] at h1; simp at h1, hl, fun h48 => ?_⟩
      by_cases h0 : z.toNat = 0
      · rw [h0, Lib.decDigits, dif_pos (by omega)]
        rfl
      · obtain ⟨c, r, e, hc⟩ := dec_head (n := z.toNat) (by omega)
        rw [e] at h48
        exact absurd (by simpa using h48) hc
    unfold numF
    rw [if_pos hf, hg, scanD_all _ hd, hv, hn]
    simp
    omega
theorem num_back {l : List UInt8} {z : Int} (h : numF l = some z) : Lib.itoa z = l := by
  unfold numF at h
  split at h
  case isFalse => cases h
  case isTrue hf =>
  have hf : digsF l ≠ [] ∧ (digsF l).length ≤ 10 ∧ ((digsF l).head? = some 48 → l = [48]) := of_decide_eq_true hf
  obtain ⟨f1, f2, f3⟩ := hf
  rw [Option.map_eq_some_iff] at h
  obtain ⟨v, hv, e⟩ := h
  obtain ⟨hd, rfl⟩ := scanD_some hv
  have hb := dec_back (digsF l) hd f1 (fun h48 => by
    have := f3 h48
    subst this
    rfl)
  have hlt := (valL_lt (digsF l) (n := 0) (k := 0) (by omega) (by decide) hd).1
  cases hn : negB l
  · have hg : digsF l = l := by unfold digsF; rw [hn]; rfl
    rw [hn] at e
    simp only [Bool.false_eq_true, if_false] at e
    subst e
    unfold Lib.itoa
    rw [if_neg (by omega), hb, hg]
  · obtain ⟨r, rfl⟩ : ∃ r, l = 45 :: r := by
      unfold negB at hn
      cases l with
      | nil => cases hn
      | cons c r => simp at hn; exact ⟨r, by rw [hn]⟩
    have hg : digsF (45 :: r) = r := by unfold digsF; rw [hn]; rfl
    rw [hn] at e
    simp only [if_true] at e
    subst e
    rw [hg] at f1 f2 f3 hd hb hlt
    rw [hg]
    obtain ⟨c, r', rfl⟩ : ∃ c r', r = c :: r' := by
      cases r with
      | nil => exact absurd rfl f1
      | cons c r' => exact ⟨c, r', rfl⟩
    have hc := dgt_bd (hd c List.mem_cons_self)
    have hc48 : c ≠ 48 := by
      rintro rfl
      have := f3 rfl
      simp at this
    have hc48' : c.toNat ≠ 48 := fun e => hc48 (UInt8.toNat_inj.1 e)
    have h1 : 1 ≤ valL (c :: r') 0 := by
      rw [valL]
      exact valL_ge r' (by omega) fun d hd' => hd d (List.mem_cons_of_mem _ hd')
    unfold Lib.itoa
    rw [if_pos (by omega), show (-valL (c :: r') 0).natAbs = (valL (c :: r') 0).toNat by omega, hb]
theorem itoa_32 (z : Int) : (32 : UInt8) ∉ Lib.itoa z := itoa_no (by decide) (by decide)
theorem itoa_10 (z : Int) : (10 : UInt8) ∉ Lib.itoa z := itoa_no (by decide) (by decide)
instance (n : Int) : Decidable (Rd n) := by unfold Rd; exact inferInstance
/-- The number of an item that a word stands for. -/
def readF (l : List UInt8) : Option Int := (numF l).bind fun z => if Rd z then some z else none
theorem read_iff {l : List UInt8} {z : Int} : readF l = some z ↔ Rd z ∧ Lib.itoa z = l := by
  have e10 : (10 : Nat) ^ 10 = 10000000000 := by decide
  unfold readF
  constructor
  · intro h
    obtain ⟨y, hy, h2⟩ := Option.bind_eq_some_iff.1 h
    split at h2
    · rename_i hc
      injection h2 with h2
      subst h2
      exact ⟨hc, num_back hy⟩
    · cases h2
  · rintro ⟨h1, rfl⟩
    rw [num_itoa (by obtain ⟨h2, h3⟩ := h1; omega), Option.bind_some, if_pos h1]
theorem valL_mono : ∀ (l : List UInt8) {n : Int}, 0 ≤ n → (∀ c ∈ l, dgt c = true) → n ≤ valL l n
  | [], n, h, _ => Int.le_refl n
  | c :: l, n, h, hd => by
    have hb := dgt_bd (hd c List.mem_cons_self)
    have := valL_mono l (n := 10 * n + ((c.toNat : Int) - 48)) (by omega) fun d hd' => hd d (List.mem_cons_of_mem _ hd')
    rw [valL]
    omega
theorem pu_ok (l : List UInt8) : ∀ (acc : Nat), (∀ c ∈ l, dgt c = true) → valL l (acc : Int) < 1000000000 → Lib.parseUint10 acc l = .ok (valL l (acc : Int)).toNat := by
  induction l with
  | nil =>
    intro acc _ _
    simp only [Lib.parseUint10]
    congr 1
  | cons c l ih =>
    intro acc hd hv
    have hc := dgt_bd (hd c List.mem_cons_self)
    have e0 : valL (c :: l) (acc : Int) = valL l (10 * (acc : Int) + ((c.toNat : Int) - 48)) := rfl
    have e : 10 * (acc : Int) + ((c.toNat : Int) - 48) = ((acc * 10 + (c.toNat - 48) : Nat) : Int) := by omega
    rw [e0, e] at hv ⊢
    have hge : ((acc * 10 + (c.toNat - 48) : Nat) : Int) ≤ valL l ((acc * 10 + (c.toNat - 48) : Nat) : Int) := valL_mono l (by omega) fun d hd' => hd d (List.mem_cons_of_mem _ hd')
    simp only [Lib.parseUint10]
    rw [if_pos hc, if_neg (by omega), if_neg (by omega)]
    exact ih _ (fun d hd' => hd d (List.mem_cons_of_mem _ hd')) hv
theorem atoi_itoa {z : Int} (h : Rd z) : Lib.atoiAll (Lib.itoa z) = .ok z := by
  obtain ⟨h1, h2⟩ := h
  by_cases h0 : z < 0
  · have e : Lib.itoa z = 45 :: Lib.decDigits z.natAbs := by unfold Lib.itoa; rw [if_pos h0]
    have hd := dec_dgt z.natAbs
    have hv := dec_val z.natAbs
    have hl := dec_len z.natAbs
    rw [e, Lib.atoiAll_minus]
    have hp : Lib.parseMag (Lib.decDigits z.natAbs) = .ok z.natAbs := by
      unfold Lib.parseMag
      rw [if_neg (fun e => by rw [e] at hl; simp at hl)]
      have := pu_ok (Lib.decDigits z.natAbs) 0 hd (by rw [show ((0 : Nat) : Int) = 0 from rfl, hv]; omega)
      rw [this, show ((0 : Nat) : Int) = 0 from rfl, hv]
      congr 1
    rw [hp]
    show (if 9223372036854775808 < z.natAbs then _ else _) = _
    rw [if_neg (by omega)]
    congr 1
    omega
  · have e : Lib.itoa z = Lib.decDigits z.toNat := by unfold Lib.itoa; rw [if_neg h0]
    have hd := dec_dgt z.toNat
    have hv := dec_val z.toNat
    have hl := dec_len z.toNat
    rw [e]
    obtain ⟨c, r, hcr⟩ : ∃ c r, Lib.decDigits z.toNat = c :: r := by
      cases h : Lib.decDigits z.toNat with
      | nil => rw [h] at hl; simp at hl
      | cons c r => exact ⟨c, r, rfl⟩
    have hc := dgt_bd (hd c (by rw [hcr]; exact List.mem_cons_self))
    have hp : Lib.parseMag (Lib.decDigits z.toNat) = .ok z.toNat := by
      unfold Lib.parseMag
      rw [if_neg (fun e => by rw [e] at hl; simp at hl)]
      have := pu_ok (Lib.decDigits z.toNat) 0 hd (by rw [show ((0 : Nat) : Int) = 0 from rfl, hv]; omega)
      rw [this, show ((0 : Nat) : Int) = 0 from rfl, hv]
      congr 1
    rw [hcr] at hp ⊢
    rw [Lib.atoiAll_plain c r (by omega) (by omega), hp]
    show (if 9223372036854775808 ≤ z.toNat then _ else _) = _
    rw [if_neg (by omega)]
    congr 1
    omega
theorem valL_pow : ∀ (l : List UInt8) (n : Int), 0 ≤ n → (∀ c ∈ l, dgt c = true) → n * (10 : Int) ^ l.length ≤ valL l n
  | [], n, _, _ => by simp [valL]
  | c :: l, n, h0, hd => by
    have hc := dgt_bd (hd c List.mem_cons_self)
    have ih := valL_pow l (10 * n + ((c.toNat : Int) - 48)) (by omega) fun d hd' => hd d (List.mem_cons_of_mem _ hd')
    rw [valL, List.length_cons, Int.pow_succ]
    have h2 : n * ((10 : Int) ^ l.length * 10) = (10 * n) * (10 : Int) ^ l.length := by
      rw [Int.mul_comm ((10 : Int) ^ l.length) 10, ← Int.mul_assoc, Int.mul_comm n 10]
    rw [h2]
    have h3 : (10 * n) * (10 : Int) ^ l.length ≤ (10 * n + ((c.toNat : Int) - 48)) * (10 : Int) ^ l.length :=
      Int.mul_le_mul_of_nonneg_right (by omega) (Int.pow_nonneg (by decide))
    exact Int.le_trans h3 ih
/-- Digits without a zero ahead that spell less than 10^10 are at most ten. -/
theorem few_digits {c : UInt8} {l : List UInt8} (hd : ∀ x ∈ c :: l, dgt x = true) (hc : c ≠ 48) (hv : valL (c :: l) 0 < 10000000000) : (c :: l).length ≤ 10 := by
  have hb := dgt_bd (hd c List.mem_cons_self)
  have hc' : c.toNat ≠ 48 := fun e => hc (UInt8.toNat_inj.1 e)
  rw [valL] at hv
  have h1 := valL_pow l (10 * 0 + ((c.toNat : Int) - 48)) (by omega) fun d hd' => hd d (List.mem_cons_of_mem _ hd')
  have h2 : (10 : Int) ^ l.length ≤ (10 * 0 + ((c.toNat : Int) - 48)) * (10 : Int) ^ l.length := by
    have := Int.mul_le_mul_of_nonneg_right (show (1 : Int) ≤ 10 * 0 + ((c.toNat : Int) - 48) by omega) (Int.pow_nonneg (by decide) : (0 : Int) ≤ 10 ^ l.length)
    rwa [Int.one_mul] at this
  have h3 : (10 : Int) ^ l.length < 10000000000 := by omega
  rcases Nat.lt_or_ge l.length 10 with h | h
  · simp; omega
  · exfalso
    have h4 : (10 : Int) ^ 10 ≤ (10 : Int) ^ l.length := by
      obtain ⟨d, hd2⟩ : ∃ d, l.length = 10 + d := ⟨l.length - 10, by omega⟩
      rw [hd2, Int.pow_add]
      have h5 : (1 : Int) ≤ (10 : Int) ^ d := by
        have : (0 : Int) < (10 : Int) ^ d := Int.pow_pos (by decide)
        omega
      have h6 := Int.mul_le_mul_of_nonneg_left h5 (show (0 : Int) ≤ (10 : Int) ^ 10 by decide)
      rwa [Int.mul_one] at h6
    have h7 : (10 : Int) ^ 10 = 10000000000 := by decide
    omega
/-- What a reader says who has read all digits. -/
theorem read_done {l : List UInt8} {v : Int} (h1 : digsF l ≠ []) (h2 : (digsF l).head? = some 48 → l = [48]) (hv : scanD (digsF l) 0 = some v) (hm : v ≤ 60000000) : readF l = some (if negB l = true then -v else v) := by
  obtain ⟨hd, rfl⟩ := scanD_some hv
  have h0 := (valL_lt (digsF l) (n := 0) (k := 0) (by omega) (by decide) hd).1
  have hlen : (digsF l).length ≤ 10 := by
    cases hD : digsF l with
    | nil => simp
    | cons c r =>
      by_cases hc : c = 48
      · subst hc
        have := h2 (by rw [hD]; rfl)
        subst this
        have hD2 : digsF [48] = [48] := rfl
        rw [hD2] at hD
        injection hD with _ hD
        rw [← hD]
        simp
      · rw [hD] at hd hm
        exact few_digits hd hc (by omega)
  have hf : formB l = true := decide_eq_true ⟨h1, hlen, h2⟩
  unfold readF numF
  rw [if_pos hf, hv, Option.map_some, Option.bind_some]
  have hin : Rd (if negB l = true then - valL (digsF l) 0 else valL (digsF l) 0) := by
    unfold Rd
    split <;> omega
  rw [if_pos hin]
theorem read_big {l : List UInt8} {v : Int} (hv : scanD (digsF l) 0 = some v) (hm : 60000000 < v) : readF l = none := by
  unfold readF numF
  split
  · rw [hv, Option.map_some, Option.bind_some]
    rw [if_neg]
    unfold Rd
    split <;> omega
  · rfl
theorem read_none {l : List UInt8} (hv : scanD (digsF l) 0 = none) : readF l = none := by
  unfold readF numF
  split
  · rw [hv]; rfl
  · rfl
theorem read_form {l : List UInt8} (h : digsF l = [] ∨ (digsF l).head? = some 48 ∧ l ≠ [48]) : readF l = none := by
  unfold readF numF
  rw [if_neg]
  · rfl
  · unfold formB
    rw [decide_eq_true_eq]
    rintro ⟨h1, h2, h3⟩
    rcases h with h | ⟨h4, h5⟩
    · exact h1 h
    · exact h5 (h3 h4)
/-- A number that is too great with digits to come stays too great. -/
theorem scan_great {r : List UInt8} {n v : Int} (hn : 6000000 < n) (hr : r ≠ []) (h : scanD r n = some v) : 60000000 < v := by
  obtain ⟨hd, rfl⟩ := scanD_some h
  cases r with
  | nil => exact absurd rfl hr
  | cons c r =>
    have hb := dgt_bd (hd c List.mem_cons_self)
    rw [valL]
    have : 10 * n + ((c.toNat : Int) - 48) ≤ valL r (10 * n + ((c.toNat : Int) - 48)) := valL_mono r (by omega) fun d hd' => hd d (List.mem_cons_of_mem _ hd')
    omega
end Go.Proofs.YtefdjdipbnnoaaaGreatDoor

namespace Go.Proofs.YtefdjdipbnnoaaaGreatDoor
open Go Go.RowKit
set_option linter.unusedVariables false

/-! ### Names -/
def kindN : Nat → List UInt8 → Nat
  | 0, _ => 0
  | k + 1, w => if w = kname (k + 1) then k + 1 else kindN k w
def kindF (w : List UInt8) : Nat := kindN 14 w
theorem kindN_le : ∀ (k : Nat) (w : List UInt8), kindN k w ≤ k
  | 0, _ => by simp [kindN]
  | k + 1, w => by
    rw [kindN]
    split
    · omega
    · have := kindN_le k w; omega
theorem kindN_name : ∀ {k : Nat} {w : List UInt8}, kindN k w ≠ 0 → kname (kindN k w) = w
  | 0, _, h => absurd rfl h
  | k + 1, w, h => by
    rw [kindN] at h ⊢
    split
    · rename_i e
      exact e.symm
    · rename_i e
      rw [if_neg e] at h
      exact kindN_name h
theorem kindF_le (w : List UInt8) : kindF w ≤ 14 := kindN_le 14 w
theorem kindF_name {w : List UInt8} (h : kindF w ≠ 0) : kname (kindF w) = w := kindN_name h
theorem kindF_of {k : Nat} (h1 : 1 ≤ k) (h : k ≤ 14) : kindF (kname k) = k := by
  match k, h1, h with
  | 1, _, _ => decide
  | 2, _, _ => decide
  | 3, _, _ => decide
  | 4, _, _ => decide
  | 5, _, _ => decide
  | 6, _, _ => decide
  | 7, _, _ => decide
  | 8, _, _ => decide
  | 9, _, _ => decide
  | 10, _, _ => decide
  | 11, _, _ => decide
  | 12, _, _ => decide
  | 13, _, _ => decide
  | 14, _, _ => decide
  | n + 15, _, h => exact absurd h (by omega)
theorem kinds_all : (kindsL.all fun w => w.all fun c => c != 32 && c != 10) = true := by decide
theorem kname_mem (k : Nat) : ∀ c ∈ kname k, c ≠ 32 ∧ c ≠ 10 := by
  intro c hc
  unfold kname at hc
  rw [List.getD_eq_getElem?_getD] at hc
  cases hk : kindsL[k]? with
  | none => rw [hk] at hc; simp at hc
  | some w =>
    rw [hk] at hc
    have h1 := List.all_eq_true.1 kinds_all w (List.mem_of_getElem? hk)
    have h2 := List.all_eq_true.1 h1 c hc
    simpa using h2

/-! ### Words -/
def joinW (ws : List (List UInt8)) : List UInt8 := ws.flatMap fun x => 32 :: x
theorem split_join : ∀ (ws : List (List UInt8)) (w : List UInt8), (∀ x ∈ ws, (32 : UInt8) ∉ x) → (32 : UInt8) ∉ w → splitL 32 (w ++ joinW ws) = w :: ws
  | [], w, _, hw => by
    have : w ++ joinW [] = w := by simp [joinW]
    rw [this, splitL_none hw]
  | x :: ws, w, h, hw => by
    have e : w ++ joinW (x :: ws) = w ++ 32 :: (x ++ joinW ws) := by simp [joinW]
    rw [e, splitL_app _ hw, split_join ws x (fun y hy => h y (List.mem_cons_of_mem _ hy)) (h x List.mem_cons_self)]
theorem join_split : ∀ {ws : List (List UInt8)} {w l : List UInt8}, splitL 32 l = w :: ws → l = w ++ joinW ws
  | [], w, l, h => by
    obtain ⟨_, h1⟩ := splitL_cons h
    rcases h1 with ⟨_, e⟩ | ⟨r, _, hr⟩
    · rw [e]; simp [joinW]
    · exact absurd hr (splitL_ne _ _)
  | x :: ws, w, l, h => by
    obtain ⟨_, h1⟩ := splitL_cons h
    rcases h1 with ⟨h2, _⟩ | ⟨r, e, hr⟩
    · cases h2
    · rw [e, join_split hr]
      simp [joinW]
/-- The text of an item without its line feed. -/
def bodyI (i : It) : List UInt8 := kname i.kind.toNat ++ preN (numsI i)
theorem fmt_body (i : It) : fmtI i = bodyI i ++ [10] := rfl
theorem preN_join (l : List Int) : preN l = joinW (l.map Lib.itoa) := by simp [preN, joinW, List.flatMap_map]
theorem body_split (i : It) : splitL 32 (bodyI i) = kname i.kind.toNat :: (numsI i).map Lib.itoa := by
  unfold bodyI
  rw [preN_join]
  refine split_join _ _ (fun x hx => ?_) (fun h => (kname_mem _ _ h).1 rfl)
  obtain ⟨n, _, rfl⟩ := List.mem_map.1 hx
  exact itoa_32 n
theorem joinW_10 {ws : List (List UInt8)} (h : ∀ x ∈ ws, (10 : UInt8) ∉ x) : (10 : UInt8) ∉ joinW ws := by
  unfold joinW
  intro hm
  obtain ⟨x, hx, hm⟩ := List.mem_flatMap.1 hm
  rcases List.mem_cons.1 hm with e | hm
  · exact absurd e (by decide)
  · exact h x hx hm
theorem body_10 (i : It) : (10 : UInt8) ∉ bodyI i := by
  unfold bodyI
  rw [preN_join]
  intro hm
  rcases List.mem_append.1 hm with hm | hm
  · exact (kname_mem _ _ hm).2 rfl
  · refine joinW_10 (fun x hx => ?_) hm
    obtain ⟨n, _, rfl⟩ := List.mem_map.1 hx
    exact itoa_10 n

/-! ### Numbers of an item -/
theorem itoa_inj {x y : Int} (h : Lib.itoa x = Lib.itoa y) : x = y := by
  have hd : ∀ n r, (45 : UInt8) :: r = Lib.decDigits n → False := fun n r e => dgt_not (dec_dgt n 45 (by rw [← e]; exact List.mem_cons_self)) rfl
  have hv : ∀ m n : Nat, Lib.decDigits m = Lib.decDigits n → m = n := fun m n e => by
    have h1 := congrArg (fun l => valL l 0) e
    simp only [dec_val] at h1
    omega
  unfold Lib.itoa at h
  split at h
  · split at h
    · injection h with _ h
      have := hv _ _ h
      omega
    · exact (hd _ _ h).elim
  · split at h
    · exact (hd _ _ h.symm).elim
    · have := hv _ _ h
      omega
def numsF : List (List UInt8) → Option (List Int)
  | [] => some []
  | w :: ws => (numF w).bind fun z => (numsF ws).map (z :: ·)
theorem numsF_itoa : ∀ {l : List Int}, (∀ n ∈ l, Rd n) → numsF (l.map Lib.itoa) = some l
  | [], _ => rfl
  | n :: l, h => by
    have h1 := h n List.mem_cons_self
    have e10 : (10 : Nat) ^ 10 = 10000000000 := by decide
    rw [List.map_cons, numsF, num_itoa (by obtain ⟨h2, h3⟩ := h1; omega), numsF_itoa fun x hx => h x (List.mem_cons_of_mem _ hx)]
    rfl
theorem numsF_back : ∀ {ws : List (List UInt8)} {l : List Int}, numsF ws = some l → l.map Lib.itoa = ws
  | [], l, h => by
    rw [numsF] at h
    injection h with h
    rw [← h]
    rfl
  | w :: ws, l, h => by
    rw [numsF] at h
    obtain ⟨z, hz, h⟩ := Option.bind_eq_some_iff.1 h
    obtain ⟨l', hl, rfl⟩ := Option.map_eq_some_iff.1 h
    rw [List.map_cons, num_back hz, numsF_back hl]
def is01 (n : Int) : Bool := n == 0 || n == 1
/-- The item with these numbers. -/
def ofNums (k : Int) : List Int → Option It
  | [a0, a1, a2, a3, a4, a5, a6, a7, a8, a9, a10, a11, a12, a13, a14, a15, a16, a17, a18, a19, a20] =>
    if (is01 a12 && is01 a14 && is01 a20) = true then some ⟨k, a0, a1, a2, a3, a4, a5, a6, a7, a8, a9, a10, a11, a12 == 1, a13, a14 == 1, a15, a16, a17, a18, a19, a20 == 1⟩ else none
  | _ => none
theorem b2i_01 (b : Bool) : is01 (b2i b) = true := by cases b <;> rfl
theorem b2i_eq (b : Bool) : (b2i b == 1) = b := by cases b <;> rfl
theorem is01_b2i {n : Int} (h : is01 n = true) : b2i (n == 1) = n := by
  unfold is01 at h
  rcases Bool.or_eq_true_iff.1 h with h | h
  · rw [eq_of_beq h]; rfl
  · rw [eq_of_beq h]; rfl
theorem ofNums_nums (i : It) : ofNums i.kind (numsI i) = some i := by
  unfold numsI ofNums
  simp only [b2i_01, b2i_eq, Bool.and_self, if_true]
theorem nums_ofNums {k : Int} {l : List Int} {i : It} (h : ofNums k l = some i) : numsI i = l ∧ i.kind = k := by
  unfold ofNums at h
  split at h
  · split at h
    · rename_i hc
      rw [Bool.and_eq_true, Bool.and_eq_true] at hc
      obtain ⟨⟨h1, h2⟩, h3⟩ := hc
      injection h with h
      subst h
      unfold numsI
      simp only [is01_b2i h1, is01_b2i h2, is01_b2i h3]
      exact ⟨trivial, trivial⟩
    · cases h
  · cases h
theorem numsI_inj {i j : It} (hk : i.kind = j.kind) (h : numsI i = numsI j) : i = j := by
  have h1 := ofNums_nums i
  have h2 := ofNums_nums j
  rw [hk, h, h2] at h1
  injection h1 with h1
  exact h1.symm
/-- The item of a line without its line feed. -/
def itemF (l : List UInt8) : Option It := match splitL 32 l with
  | [] => none
  | w :: ws => if kindF w = 0 then none else (numsF ws).bind fun zs => (ofNums (kindF w : Nat) zs).bind fun i => if validI i = true then some i else none
theorem item_iff {l : List UInt8} {i : It} : itemF l = some i ↔ validI i = true ∧ bodyI i = l := by
  constructor
  · intro h
    unfold itemF at h
    split at h
    · cases h
    · rename_i w ws hs
      split at h
      · cases h
      · rename_i hk
        obtain ⟨zs, hz, h⟩ := Option.bind_eq_some_iff.1 h
        obtain ⟨j, hj, h⟩ := Option.bind_eq_some_iff.1 h
        split at h
        · rename_i hv
          injection h with h
          subst h
          obtain ⟨h1, h2⟩ := nums_ofNums hj
          refine ⟨hv, ?_⟩
          unfold bodyI
          rw [h1, h2, preN_join, numsF_back hz, Int.toNat_natCast, kindF_name hk, ← join_split hs]
        · cases h
  · rintro ⟨hv, rfl⟩
    unfold itemF
    rw [body_split]
    have hk := validI_kind hv
    have hkn : kindF (kname i.kind.toNat) = i.kind.toNat := kindF_of (by omega) (by omega)
    simp only
    rw [hkn, if_neg (by omega), numsF_itoa (nums_rd hv), Option.bind_some, Int.toNat_of_nonneg (by omega), ofNums_nums, Option.bind_some, if_pos hv]
theorem item_no {l : List UInt8} (h : ∀ i, validI i = true → bodyI i ≠ l) : itemF l = none := by
  cases hi : itemF l with
  | none => rfl
  | some i =>
    obtain ⟨h1, h2⟩ := item_iff.1 hi
    exact absurd h2 (h i h1)
/-- A line whose words are not those of an item. -/
theorem item_short {l : List UInt8} (h : (splitL 32 l).length ≠ 22) : itemF l = none := item_no fun i _ e => h (by rw [← e, body_split]; rfl)
theorem item_kind {l w : List UInt8} {ws : List (List UInt8)} (hs : splitL 32 l = w :: ws) (h : kindF w = 0) : itemF l = none := item_no fun i hv e => by
  rw [← e, body_split] at hs
  injection hs with h1 _
  have hk := validI_kind hv
  rw [← h1, kindF_of (by omega) (by omega)] at h
  omega
theorem item_word {l w x : List UInt8} {ws : List (List UInt8)} {k : Nat} (hs : splitL 32 l = w :: ws) (hx : ws[k]? = some x) (h : readF x = none) : itemF l = none := item_no fun i hv e => by
  rw [← e, body_split] at hs
  injection hs with _ h2
  rw [← h2, List.getElem?_map] at hx
  obtain ⟨n, hn, rfl⟩ := Option.map_eq_some_iff.1 hx
  have h1 := read_iff.2 ⟨nums_rd hv n (List.mem_of_getElem? hn), rfl⟩
  rw [h] at h1
  cases h1
theorem item_flag {l w x : List UInt8} {ws : List (List UInt8)} {k : Nat} {z : Int} (hs : splitL 32 l = w :: ws) (hx : ws[k]? = some x) (hz : Lib.itoa z = x) (hk : k = 12 ∨ k = 14 ∨ k = 20) (h : is01 z = false) : itemF l = none := item_no fun i hv e => by
  rw [← e, body_split] at hs
  injection hs with _ h2
  rw [← h2, List.getElem?_map] at hx
  obtain ⟨n, hn, he⟩ := Option.map_eq_some_iff.1 hx
  obtain rfl : z = n := itoa_inj (hz.trans he.symm)
  have : ∃ b, z = b2i b := by
    rcases hk with rfl | rfl | rfl
    · exact ⟨i.full, by simpa [numsI] using hn.symm⟩
    · exact ⟨i.perRev, by simpa [numsI] using hn.symm⟩
    · exact ⟨i.on, by simpa [numsI] using hn.symm⟩
  obtain ⟨b, rfl⟩ := this
  rw [b2i_01] at h
  cases h
/-- A line that says all numbers of an item. -/
theorem body_of {l w : List UInt8} {ws : List (List UInt8)} {i : It} (hs : splitL 32 l = w :: ws) (hk : kname i.kind.toNat = w) (hn : (numsI i).map Lib.itoa = ws) : bodyI i = l := by
  unfold bodyI
  rw [preN_join, hn, hk, ← join_split hs]
theorem body_inj {i j : It} (hi : 1 ≤ i.kind ∧ i.kind ≤ 14) (hj : 1 ≤ j.kind ∧ j.kind ≤ 14) (hr : validI j = true) (h : bodyI i = bodyI j) : i = j := by
  have h1 := body_split i
  rw [h, body_split] at h1
  injection h1 with h2 h3
  have h4 := kindF_of (k := i.kind.toNat) (by omega) (by omega)
  rw [← h2, kindF_of (by omega) (by omega)] at h4
  refine numsI_inj (by omega) ?_
  have h5 : ∀ {l m : List Int}, l.map Lib.itoa = m.map Lib.itoa → (∀ n ∈ m, Rd n) → l = m := by
    intro l
    induction l with
    | nil =>
      intro m hm _
      cases m with
      | nil => rfl
      | cons y m => simp at hm
    | cons x l ih =>
      intro m hm hr
      cases m with
      | nil => simp at hm
      | cons y m =>
        rw [List.map_cons, List.map_cons] at hm
        injection hm with e1 e2
        rw [itoa_inj e1, ih e2 fun n hn => hr n (List.mem_cons_of_mem _ hn)]
  exact h5 h3.symm (nums_rd hr)
/-- What a line is that says an item: its item, if that is valid. -/
theorem item_said {l : List UInt8} {i : It} (hi : 1 ≤ i.kind ∧ i.kind ≤ 14) (h : bodyI i = l) : itemF l = if validI i = true then some i else none := by
  split
  · rename_i hv
    exact item_iff.2 ⟨hv, h⟩
  · rename_i hv
    refine item_no fun j hj e => hv ?_
    rw [body_inj hi (validI_kind hj) hj (h.trans e.symm)]
    exact hj
end Go.Proofs.YtefdjdipbnnoaaaGreatDoor

namespace Go.Proofs.YtefdjdipbnnoaaaGreatDoor
open Go Go.RowKit
set_option linter.unusedVariables false

theorem cut_less {c : UInt8} {l a b : List UInt8} (h : cutL c l = some (a, b)) : a.length + 1 + b.length = l.length := by
  obtain ⟨e, _⟩ := cutL_some h
  rw [e]
  simp
  omega
/-! ### Lines -/
/-- The lines of a text, and whether its last one is ended. -/
def lnsG : Nat → List UInt8 → List (List UInt8) × Bool
  | 0, _ => ([], true)
  | f + 1, l => if l = [] then ([], true) else match cutL 10 l with
    | none => ([l], false)
    | some (a, r) => (a :: (lnsG f r).1, (lnsG f r).2)
def lnsF (l : List UInt8) : List (List UInt8) × Bool := lnsG (l.length + 1) l
theorem lnsG_more : ∀ (f g : Nat) (l : List UInt8), l.length < f → l.length < g → lnsG f l = lnsG g l
  | 0, _, _, h, _ => by omega
  | _, 0, _, _, h => by omega
  | f + 1, g + 1, l, hf, hg => by
    rw [lnsG, lnsG]
    split
    · rfl
    · split
      · rfl
      · rename_i s r hc
        have := cut_less hc
        rw [lnsG_more f g r (by omega) (by omega)]
theorem lnsF_nil : lnsF [] = ([], true) := rfl
theorem lnsF_none {l : List UInt8} (hl : l ≠ []) (h : cutL 10 l = none) : lnsF l = ([l], false) := by unfold lnsF; rw [lnsG, if_neg hl, h]
theorem lnsF_cut {l a r : List UInt8} (h : cutL 10 l = some (a, r)) : lnsF l = (a :: (lnsF r).1, (lnsF r).2) := by
  have := cut_less h
  unfold lnsF
  rw [lnsG, if_neg (by rintro rfl; simp [cutL] at h), h]
  simp only
  rw [lnsG_more _ (r.length + 1) r (by omega) (by omega)]
theorem lnsF_len : ∀ (n : Nat) (l : List UInt8), l.length ≤ n → (lnsF l).1.length ≤ l.length ∧ ((lnsF l).1 = [] → (lnsF l).2 = true) ∧ ∀ a ∈ (lnsF l).1, a.length ≤ l.length := by
  intro n
  induction n with
  | zero =>
    intro l hl
    obtain rfl := List.length_eq_zero_iff.1 (Nat.le_zero.1 hl)
    rw [lnsF_nil]
    exact ⟨by simp, fun _ => rfl, fun a h => by simp at h⟩
  | succ n ih =>
    intro l hl
    by_cases h0 : l = []
    · subst h0; rw [lnsF_nil]; exact ⟨by simp, fun _ => rfl, fun a h => by simp at h⟩
    · cases hc : cutL 10 l with
      | none =>
        rw [lnsF_none h0 hc]
        have : 1 ≤ l.length := by cases l with | nil => exact absurd rfl h0 | cons c l => simp
        exact ⟨by simpa using this, fun h => by simp at h, fun a h => by simp at h; subst h; exact Nat.le_refl _⟩
      | some p =>
        obtain ⟨a, r⟩ := p
        have := cut_less hc
        obtain ⟨h1, h2, h3⟩ := ih r (by omega)
        rw [lnsF_cut hc]
        refine ⟨by simp; omega, fun h => by simp at h, fun x hx => ?_⟩
        rcases List.mem_cons.1 hx with rfl | hx
        · omega
        · have := h3 x hx; omega
/-- How many lines a text has: its line feeds, and one more if the last line is not ended. -/
def opn (l : List UInt8) : Bool := decide (l ≠ []) && (l.getLast? != some 10)
theorem opn_nil : opn [] = false := rfl
theorem opn_app (a : List UInt8) {r : List UInt8} (hr : r ≠ []) : opn (a ++ 10 :: r) = opn r := by
  unfold opn
  rw [decide_eq_true (show a ++ 10 :: r ≠ [] by simp), decide_eq_true hr, List.getLast?_append, List.getLast?_cons]
  cases h : r.getLast? with
  | none => exact absurd (List.getLast?_eq_none_iff.1 h) hr
  | some x => simp
theorem lns_count : ∀ (n : Nat) (l : List UInt8), l.length ≤ n → l.count 10 + (if opn l = true then 1 else 0) = (lnsF l).1.length := by
  intro n
  induction n with
  | zero =>
    intro l hl
    obtain rfl := List.length_eq_zero_iff.1 (Nat.le_zero.1 hl)
    rfl
  | succ n ih =>
    intro l hl
    by_cases h0 : l = []
    · subst h0; rfl
    · cases hc : cutL 10 l with
      | none =>
        have hn := cutL_none.1 hc
        have ho : opn l = true := by
          unfold opn
          rw [decide_eq_true h0, Bool.true_and, bne_iff_ne]
          intro e
          exact hn (List.mem_of_getLast? e)
        rw [lnsF_none h0 hc, if_pos ho, List.count_eq_zero.2 hn]
        rfl
      | some p =>
        obtain ⟨a, r⟩ := p
        have := cut_less hc
        have h1 := ih r (by omega)
        obtain ⟨e, hn⟩ := cutL_some hc
        have h2 : l.count 10 = r.count 10 + 1 := by rw [e, List.count_append, List.count_eq_zero.2 hn, List.count_cons_self]; omega
        have h3 : opn l = opn r := by
          by_cases hr : r = []
          · subst hr
            rw [e]
            unfold opn
            simp
          · rw [e, opn_app a hr]
        rw [lnsF_cut hc, h2, h3, List.length_cons]
        omega

/-! ### The list of a text -/
/-- What Parse returns: the list, a number, the error; the first items are known. -/
def parseG : Nat → List It → List UInt8 → List It × Int × Int
  | 0, acc, _ => ([], acc.length, 2)
  | f + 1, acc, l => if l = [] then (acc, (acc.length : Int), 0) else match cutL 10 l with
    | none => ([], acc.length, 2)
    | some (a, r) => match itemF a with
      | none => ([], acc.length, 2)
      | some t => parseG f (acc ++ [t]) r
def parseA (acc : List It) (l : List UInt8) : List It × Int × Int := parseG (l.length + 1) acc l
def parseT (l : List UInt8) : List It × Int × Int := if 20000 < (lnsF l).1.length then ([], 0, 10) else parseA [] l
theorem parseG_more : ∀ (f g : Nat) (acc : List It) (l : List UInt8), l.length < f → l.length < g → parseG f acc l = parseG g acc l
  | 0, _, _, _, h, _ => by omega
  | _, 0, _, _, _, h => by omega
  | f + 1, g + 1, acc, l, hf, hg => by
    rw [parseG, parseG]
    split
    · rfl
    · split
      · rfl
      · rename_i s r hc
        have := cut_less hc
        split
        · rfl
        · exact parseG_more f g _ r (by omega) (by omega)
theorem parseA_nil (acc : List It) : parseA acc [] = (acc, (acc.length : Int), 0) := by unfold parseA; rw [parseG, if_pos rfl]
theorem parseA_none {acc : List It} {l : List UInt8} (hl : l ≠ []) (h : cutL 10 l = none) : parseA acc l = ([], (acc.length : Int), 2) := by
  unfold parseA
  rw [parseG, if_neg hl, h]
theorem parseA_bad {acc : List It} {l a r : List UInt8} (h : cutL 10 l = some (a, r)) (ht : itemF a = none) : parseA acc l = ([], (acc.length : Int), 2) := by
  unfold parseA
  rw [parseG, if_neg (by rintro rfl; simp [cutL] at h), h]
  simp only [ht]
theorem parseA_item {acc : List It} {l a r : List UInt8} {t : It} (h : cutL 10 l = some (a, r)) (ht : itemF a = some t) : parseA acc l = parseA (acc ++ [t]) r := by
  have := cut_less h
  unfold parseA
  rw [parseG, if_neg (by rintro rfl; simp [cutL] at h), h]
  simp only [ht]
  exact parseG_more _ _ _ _ (by omega) (by omega)
/-- The list of lines, as Parse says; the first items are known. -/
def parseLs (full : Bool) : List It → List (List UInt8) → List It × Int × Int
  | acc, [] => (acc, (acc.length : Int), 0)
  | acc, a :: rest => if rest = [] ∧ full = false then ([], acc.length, 2) else match itemF a with
    | none => ([], acc.length, 2)
    | some t => parseLs full (acc ++ [t]) rest
theorem parseLs_nil {full : Bool} {acc : List It} : parseLs full acc [] = (acc, (acc.length : Int), 0) := rfl
theorem parseLs_last {acc : List It} {a : List UInt8} : parseLs false acc [a] = ([], (acc.length : Int), 2) := by rw [parseLs, if_pos ⟨rfl, rfl⟩]
theorem parseLs_bad {full : Bool} {acc : List It} {a : List UInt8} {rest : List (List UInt8)} (h : itemF a = none) : parseLs full acc (a :: rest) = ([], (acc.length : Int), 2) := by
  rw [parseLs]
  split
  · rfl
  · rw [h]
theorem parseLs_item {full : Bool} {acc : List It} {a : List UInt8} {rest : List (List UInt8)} {t : It} (h : itemF a = some t) (hn : ¬ (rest = [] ∧ full = false)) : parseLs full acc (a :: rest) = parseLs full (acc ++ [t]) rest := by rw [parseLs, if_neg hn, h]
theorem parse_lines : ∀ (n : Nat) (acc : List It) (l : List UInt8), l.length ≤ n → parseA acc l = parseLs (lnsF l).2 acc (lnsF l).1 := by
  intro n
  induction n with
  | zero =>
    intro acc l hl
    obtain rfl := List.length_eq_zero_iff.1 (Nat.le_zero.1 hl)
    rw [parseA_nil, lnsF_nil]
    rfl
  | succ n ih =>
    intro acc l hl
    by_cases h0 : l = []
    · subst h0; rw [parseA_nil, lnsF_nil]; rfl
    · cases hc : cutL 10 l with
      | none =>
        rw [parseA_none h0 hc, lnsF_none h0 hc]
        show _ = parseLs false acc [l]
        rw [parseLs, if_pos ⟨rfl, rfl⟩]
      | some p =>
        obtain ⟨a, r⟩ := p
        have hl2 := cut_less hc
        have h2 := (lnsF_len r.length r (Nat.le_refl _)).2.1
        rw [lnsF_cut hc, parseLs, if_neg (by rintro ⟨h3, h4⟩; rw [h2 h3] at h4; cases h4)]
        cases ht : itemF a with
        | none => rw [parseA_bad hc ht]
        | some t => rw [parseA_item hc ht]; exact ih _ r (by omega)

/-! ### Back and forth -/
theorem cut_fmt {t : It} (r : List UInt8) : cutL 10 (fmtI t ++ r) = some (bodyI t, r) := by
  have : fmtI t ++ r = bodyI t ++ 10 :: r := by rw [fmt_body]; simp
  rw [this]
  exact cutL_app _ (body_10 t)
theorem lns_fmt : ∀ (l : List It), (lnsF (fmtIs l)).1.length = l.length
  | [] => rfl
  | t :: l => by
    have e : fmtIs (t :: l) = fmtI t ++ fmtIs l := by simp [fmtIs]
    rw [e, lnsF_cut (cut_fmt _), List.length_cons, List.length_cons, lns_fmt l]
theorem parse_fmtA : ∀ (l acc : List It), (∀ t ∈ l, validI t = true) → parseA acc (fmtIs l) = (acc ++ l, ((acc ++ l).length : Int), 0)
  | [], acc, _ => by
    have : fmtIs [] = [] := rfl
    rw [this, parseA_nil, List.append_nil]
  | t :: l, acc, hg => by
    have e : fmtIs (t :: l) = fmtI t ++ fmtIs l := by simp [fmtIs]
    rw [e, parseA_item (cut_fmt _) (item_iff.2 ⟨hg t List.mem_cons_self, rfl⟩), parse_fmtA l (acc ++ [t]) (fun x hx => hg x (List.mem_cons_of_mem _ hx))]
    simp
theorem parse_fmt {l : List It} (h : ∀ t ∈ l, validI t = true) (hn : l.length ≤ 20000) : parseT (fmtIs l) = (l, (l.length : Int), 0) := by
  unfold parseT
  rw [lns_fmt, if_neg (by omega)]
  simpa using parse_fmtA l [] h
theorem parse_backA : ∀ (n : Nat) (acc : List It) (l : List UInt8), l.length ≤ n → (∀ t ∈ acc, validI t = true) → (parseA acc l).2.2 = 0 → fmtIs (parseA acc l).1 = fmtIs acc ++ l ∧ (∀ t ∈ (parseA acc l).1, validI t = true) ∧ (parseA acc l).2.1 = (parseA acc l).1.length := by
  intro n
  induction n with
  | zero =>
    intro acc l hl ha h
    obtain rfl := List.length_eq_zero_iff.1 (Nat.le_zero.1 hl)
    rw [parseA_nil]
    exact ⟨by simp, ha, rfl⟩
  | succ n ih =>
    intro acc l hl ha h
    by_cases h0 : l = []
    · subst h0
      rw [parseA_nil]
      exact ⟨by simp, ha, rfl⟩
    · cases hc : cutL 10 l with
      | none => rw [parseA_none h0 hc] at h; simp at h
      | some p =>
        obtain ⟨a, r⟩ := p
        cases ht : itemF a with
        | none => rw [parseA_bad hc ht] at h; simp at h
        | some t =>
          rw [parseA_item hc ht] at h ⊢
          have := cut_less hc
          obtain ⟨hv, hb⟩ := item_iff.1 ht
          obtain ⟨h1, h2, h3⟩ := ih (acc ++ [t]) r (by omega) (fun x hx => by
            rcases List.mem_append.1 hx with hx | hx
            · exact ha x hx
            · rw [List.mem_singleton] at hx; rw [hx]; exact hv) h
          refine ⟨?_, h2, h3⟩
          rw [h1, fmtIs_snoc, fmt_body, hb, (cutL_some hc).1]
          simp
theorem parse_back {l : List UInt8} (h : (parseT l).2.2 = 0) : fmtIs (parseT l).1 = l ∧ (∀ t ∈ (parseT l).1, validI t = true) ∧ (parseT l).2.1 = (parseT l).1.length := by
  unfold parseT at h ⊢
  split
  · rename_i hc
    rw [if_pos hc] at h
    simp at h
  · rename_i hc
    rw [if_neg hc] at h
    have := parse_backA l.length [] l (Nat.le_refl _) (fun t ht => by simp at ht) h
    simpa [fmtIs] using this
theorem parse_len : ∀ (n : Nat) (acc : List It) (l : List UInt8), l.length ≤ n → (parseA acc l).1.length ≤ acc.length + l.length := by
  intro n
  induction n with
  | zero =>
    intro acc l hl
    obtain rfl := List.length_eq_zero_iff.1 (Nat.le_zero.1 hl)
    rw [parseA_nil]
    simp
  | succ n ih =>
    intro acc l hl
    by_cases h0 : l = []
    · subst h0
      rw [parseA_nil]
      simp
    · cases hc : cutL 10 l with
      | none => rw [parseA_none h0 hc]; simp
      | some p =>
        obtain ⟨a, r⟩ := p
        have := cut_less hc
        cases ht : itemF a with
        | none => rw [parseA_bad hc ht]; simp
        | some t =>
          rw [parseA_item hc ht]
          have := ih (acc ++ [t]) r (by omega)
          rw [List.length_append] at this
          simp at this
          omega
end Go.Proofs.YtefdjdipbnnoaaaGreatDoor
