/-
  The decimal digits of a number; what they are as a number again. No condition.
-/
import Derived.Test.YtiphekdahmiaeaaDoorOff05
import Derived.Test.YtiphekdahmiaeaaDoorScan05
namespace Go.Proofs.YtiphekdahmiaeaaDoor
open Go Go.RowKit
set_option linter.unusedVariables false

def dgB (n : Nat) : UInt8 := UInt8.ofNat (48 + n % 10)
theorem dgB_nat (n : Nat) : (dgB n).toNat = 48 + n % 10 := by
  unfold dgB
  rw [UInt8.toNat_ofNat']
  omega
theorem dgB_dgt (n : Nat) : dgt (dgB n) = true := by
  unfold dgt digB
  rw [dgB_nat]
  exact decide_eq_true (by omega)
def decL (n : Nat) : List UInt8 := if n < 10 then [dgB n] else decL (n / 10) ++ [dgB n]
decreasing_by omega
def valL : List UInt8 → Int → Int
  | [], n => n
  | c :: l, n => valL l (10 * n + ((c.toNat : Int) - 48))
theorem valL_append : ∀ (l r : List UInt8) (n : Int), valL (l ++ r) n = valL r (valL l n)
  | [], r, n => rfl
  | c :: l, r, n => by rw [List.cons_append, valL, valL]; exact valL_append l r _
theorem valL_lin : ∀ (l : List UInt8) (n : Int), valL l n = n * p10 l.length + valL l 0
  | [], n => by simp [valL, p10]
  | c :: l, n => by
    rw [valL, valL, valL_lin l, valL_lin l (10 * 0 + _), List.length_cons, p10_succ]
    generalize p10 l.length = P
    generalize valL l 0 = V
    rw [Int.add_mul, Int.mul_zero, Int.zero_add, Int.mul_comm 10 n, Int.mul_assoc]
    omega
theorem decL_val (n : Nat) : valL (decL n) 0 = n := by
  induction n using Nat.strongRecOn with
  | _ n ih =>
    rw [decL]
    split
    · rename_i h
      simp only [valL, dgB_nat]
      omega
    · rename_i h
      rw [valL_append, ih (n / 10) (by omega)]
      simp only [valL, dgB_nat]
      omega
theorem decL_dgt (n : Nat) : ∀ c ∈ decL n, dgt c = true := by
  induction n using Nat.strongRecOn with
  | _ n ih =>
    rw [decL]
    split
    · intro c hc
      rw [List.mem_singleton.1 hc]
      exact dgB_dgt n
    · intro c hc
      rcases List.mem_append.1 hc with hc | hc
      · exact ih (n / 10) (by omega) c hc
      · rw [List.mem_singleton.1 hc]
        exact dgB_dgt n
theorem decL_len (n : Nat) : 1 ≤ (decL n).length := by
  rw [decL]
  split
  · exact Nat.le_refl 1
  · rw [List.length_append]; simp
theorem decL_most : ∀ (k n : Nat), n < 10 ^ (k + 1) → (decL n).length ≤ k + 1
  | 0, n, h => by
    rw [decL, if_pos (by omega)]
    exact Nat.le_refl 1
  | k + 1, n, h => by
    rw [decL]
    split
    · simp
    · have := decL_most k (n / 10) (by rw [Nat.pow_succ] at h; omega)
      rw [List.length_append]
      simp
      omega
theorem decL_least : ∀ (k n : Nat), 10 ^ k ≤ n → k + 1 ≤ (decL n).length
  | 0, n, h => decL_len n
  | k + 1, n, h => by
    have h1 : 1 ≤ 10 ^ k := Nat.one_le_pow _ _ (by omega)
    have h2 : 10 ^ k * 10 ≤ n := by rw [← Nat.pow_succ]; exact h
    have := decL_least k (n / 10) (by omega)
    rw [decL, if_neg (by omega), List.length_append]
    simp
    omega
theorem valL_bd : ∀ (l : List UInt8), (∀ c ∈ l, dgt c = true) → 0 ≤ valL l 0 ∧ valL l 0 < p10 l.length
  | [], _ => by simp [valL, p10]
  | c :: l, h => by
    have hc := h c List.mem_cons_self
    unfold dgt digB at hc
    have hc := of_decide_eq_true hc
    have ih := valL_bd l fun d hd => h d (List.mem_cons_of_mem _ hd)
    have hp := p10_pos l.length
    rw [valL, valL_lin, List.length_cons, p10_succ]
    have e : 10 * 0 + ((c.toNat : Int) - 48) = (c.toNat : Int) - 48 := by omega
    rw [e]
    have h1 : 0 ≤ ((c.toNat : Int) - 48) * p10 l.length := Int.mul_nonneg (by omega) (by omega)
    have h2 : ((c.toNat : Int) - 48) * p10 l.length ≤ 9 * p10 l.length := Int.mul_le_mul_of_nonneg_right (by omega) (by omega)
    omega

/-! ### Scanned again -/
theorem scan_whole : ∀ (D r : List UInt8) (wh : Nat) (n : Int), (∀ c ∈ D, dgt c = true) → wh + D.length ≤ 9 → scanR (D ++ r) wh 0 false n = scanR r (wh + D.length) 0 false (valL D n)
  | [], r, wh, n, _, _ => rfl
  | c :: D, r, wh, n, h, hl => by
    have hc := h c List.mem_cons_self
    have hc' := hc
    unfold dgt digB at hc'
    have hc' := of_decide_eq_true hc'
    simp only [List.length_cons] at hl
    rw [List.cons_append, scanR, if_neg (by omega), if_neg (by rw [hc]; decide), if_neg (by decide), if_neg (by omega), valL, List.length_cons]
    rw [scan_whole D r (wh + 1) _ (fun d hd => h d (List.mem_cons_of_mem _ hd)) (by omega)]
    congr 1
    omega
theorem scan_part : ∀ (D r : List UInt8) (wh pt : Nat) (n : Int), (∀ c ∈ D, dgt c = true) → pt + D.length ≤ 6 → scanR (D ++ r) wh pt true n = scanR r wh (pt + D.length) true (valL D n)
  | [], r, wh, pt, n, _, _ => rfl
  | c :: D, r, wh, pt, n, h, hl => by
    have hc := h c List.mem_cons_self
    simp only [List.length_cons] at hl
    rw [List.cons_append, scanR, if_neg (by simp), if_neg (by rw [hc]; decide), if_pos rfl, if_neg (by omega), valL, List.length_cons]
    rw [scan_part D r wh (pt + 1) _ (fun d hd => h d (List.mem_cons_of_mem _ hd)) (by omega)]
    congr 1
    omega
/-- How a number is written. -/
structure Form (m : Nat) (F : List UInt8) : Prop where
  num : ∀ c ∈ F, num c = true
  pos : F ≠ []
  back : scanR F 0 0 false 0 = some (m : Int)
  odd : scanR (F ++ [46, 49, 46]) 0 0 false 0 = none
  size : F.length ≤ 16
theorem num_of {c : UInt8} (h : dgt c = true) : num c = true := by
  unfold num numB
  unfold dgt at h
  rw [h]
  rfl
theorem form_whole {m : Nat} (h : m / 1000000 < 10 ^ 9) (h0 : m % 1000000 = 0) : Form m (decL (m / 1000000)) := by
  have hd := decL_dgt (m / 1000000)
  have hl := decL_most 8 (m / 1000000) h
  have hl0 := decL_len (m / 1000000)
  have hv := decL_val (m / 1000000)
  have e6 : p10 6 = 1000000 := by unfold p10; decide
  generalize decL (m / 1000000) = D at *
  refine ⟨fun c hc => num_of (hd c hc), fun e => by rw [e] at hl0; simp at hl0, ?_, ?_, by omega⟩
  · have := scan_whole D [] 0 0 hd (by omega)
    rw [List.append_nil] at this
    rw [this, scanR, if_neg (by omega), hv, e6]
    congr 1
    omega
  · rw [scan_whole D _ 0 0 hd (by omega), scanR, if_pos ⟨rfl, rfl⟩, scanR, if_neg (by simp), if_neg (by decide), if_pos rfl, if_neg (by omega), scanR, if_neg (by simp), if_pos (by decide)]
theorem form_part {m : Nat} {E : List UInt8} (h : m / 1000000 < 10 ^ 9) (hE : ∀ c ∈ E, dgt c = true) (h1 : 1 ≤ E.length) (h6 : E.length ≤ 6) (hv : valL E 0 * p10 (6 - E.length) = ((m % 1000000 : Nat) : Int)) :
    Form m (decL (m / 1000000) ++ [46] ++ E) := by
  have hd := decL_dgt (m / 1000000)
  have hl := decL_most 8 (m / 1000000) h
  have hl0 := decL_len (m / 1000000)
  have hw := decL_val (m / 1000000)
  have e6 : p10 6 = 1000000 := by unfold p10; decide
  have hp : p10 E.length * p10 (6 - E.length) = 1000000 := by rw [← p10_add, ← e6]; congr 1; omega
  generalize decL (m / 1000000) = D at *
  have hs : ∀ r, scanR (D ++ [46] ++ E ++ r) 0 0 false 0 = scanR r D.length E.length true (valL E (valL D 0)) := fun r => by
    rw [List.append_assoc, List.append_assoc, scan_whole D _ 0 0 hd (by omega), List.cons_append, scanR, if_pos ⟨rfl, rfl⟩, List.nil_append, scan_part E r _ 0 _ hE (by omega), Nat.zero_add, Nat.zero_add]
  refine ⟨fun c hc => ?_, fun e => by simp at e, ?_, ?_, by simp; omega⟩
  · rcases List.mem_append.1 hc with hc | hc
    · rcases List.mem_append.1 hc with hc | hc
      · exact num_of (hd c hc)
      · rw [List.mem_singleton.1 hc]; rfl
    · exact num_of (hE c hc)
  · have := hs []
    rw [List.append_nil] at this
    rw [this, scanR, if_neg (by omega), valL_lin, Int.add_mul, Int.mul_assoc, hp, hv, hw]
    congr 1
    omega
  · rw [hs, scanR, if_neg (by simp), if_pos (by decide)]

/-! ### As a token -/
theorem take_all {F : List UInt8} (h : ∀ c ∈ F, num c = true) : F.takeWhile num = F := by
  induction F with
  | nil => rfl
  | cons c r ih => rw [List.takeWhile_cons, if_pos (h c List.mem_cons_self), ih fun d hd => h d (List.mem_cons_of_mem _ hd)]
theorem longest_X {c : UInt8} {r : List UInt8} (h : num c = true) : longest (88 :: c :: r) = [] := by
  have hno : ∀ nm ∈ namesL, nm.isPrefixOf (88 :: c :: r) = false := by
    intro nm hm
    have hc : c ≠ 79 := fun e => by subst e; revert h; decide
    have hall : (namesL.all fun nm => match nm with | a :: b :: _ => a != 88 || b == 79 | _ => false) = true := by decide
    have := List.all_eq_true.1 hall nm hm
    match nm, this with
    | a :: b :: q, this =>
      rw [Bool.eq_false_iff]
      intro hp
      have hp := List.isPrefixOf_iff_prefix.1 hp
      obtain ⟨t, ht⟩ := hp
      simp only [List.cons_append] at ht
      injection ht with e1 e2
      injection e2 with e2 _
      subst e1
      subst e2
      simp at this
      exact hc this
  have : ∀ (ns : List (List UInt8)), (∀ nm ∈ ns, nm.isPrefixOf (88 :: c :: r) = false) → longG (88 :: c :: r) ns [] = [] := by
    intro ns
    induction ns with
    | nil => intro _; rfl
    | cons nm ns ih =>
      intro h
      rw [longG, h nm List.mem_cons_self, if_neg (by simp)]
      exact ih fun x hx => h x (List.mem_cons_of_mem _ hx)
  exact this _ hno
theorem step_X {c : UInt8} {r : List UInt8} (h : num c = true) : stepL (88 :: c :: r) = some (some (1, 88, []), 1) := by
  rw [stepL, if_neg (by decide), if_neg (by decide), if_neg (by decide), if_neg (by decide), if_pos (by decide), if_pos (longest_X h)]
  rfl
theorem num_plain {c : UInt8} (h : num c = true) : blankB c.toNat = false ∧ c ≠ 59 ∧ c ≠ 40 := by
  unfold num numB digB at h
  have h : (48 ≤ (c.toNat : Int) ∧ (c.toNat : Int) ≤ 57) ∨ (c.toNat : Int) = 46 := by simpa using h
  refine ⟨?_, fun e => by subst e; revert h; decide, fun e => by subst e; revert h; decide⟩
  unfold blankB
  exact decide_eq_false (by omega)
theorem step_num {c : UInt8} {r : List UInt8} (h : ∀ d ∈ c :: r, num d = true) {n : Int} (hp : parseF (c :: r) = some n) : stepL (c :: r) = some (some (2, n, []), (c :: r).length) := by
  have hc := h c List.mem_cons_self
  obtain ⟨a1, a2, a3⟩ := num_plain hc
  rw [stepL, if_neg (by rw [a1]; decide), if_neg a2, if_neg a3, if_pos hc, take_all h, hp]
theorem step_nonum {c : UInt8} {r : List UInt8} (h : ∀ d ∈ c :: r, num d = true) (hp : parseF (c :: r) = none) : stepL (c :: r) = none := by
  have hc := h c List.mem_cons_self
  obtain ⟨a1, a2, a3⟩ := num_plain hc
  rw [stepL, if_neg (by rw [a1]; decide), if_neg a2, if_neg a3, if_pos hc, take_all h, hp]
theorem lex_num {m : Nat} {F : List UInt8} (h : Form m F) : lexT (88 :: F) 0 = .ok [⟨1, 88, 0, []⟩, ⟨2, m, 1, []⟩] := by
  obtain ⟨h1, h2, h3, h4⟩ := h
  cases F with
  | nil => exact absurd rfl h2
  | cons c r =>
    have hs := step_num h1 ((scan_parse _).symm.trans h3)
    rw [lexT_tok (step_X (h1 c List.mem_cons_self))]
    show Res.join _ (lexT (c :: r) 1) = _
    rw [lexT_tok hs, List.drop_length]
    rfl
theorem lex_odd {m : Nat} {F : List UInt8} (h : Form m F) : lexT (88 :: F ++ [46, 49, 46]) 0 = .bad 1 := by
  obtain ⟨h1, h2, h3, h4⟩ := h
  cases F with
  | nil => exact absurd rfl h2
  | cons c r =>
    have hn : ∀ d ∈ c :: (r ++ [46, 49, 46]), num d = true := by
      intro d hd
      rw [← List.cons_append] at hd
      rcases List.mem_append.1 hd with hd | hd
      · exact h1 d hd
      · simp at hd
        rcases hd with rfl | rfl | rfl <;> decide
    have hs := step_nonum hn ((scan_parse _).symm.trans h4)
    rw [List.cons_append, List.cons_append, lexT_tok (step_X (h1 c List.mem_cons_self))]
    show Res.join _ (lexT (c :: (r ++ [46, 49, 46])) 1) = _
    rw [lexT_bad (by simp) hs]
    rfl
end Go.Proofs.YtiphekdahmiaeaaDoor
