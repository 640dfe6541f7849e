/-
  Tool tables and their texts in plain words: which tables are valid, the text of a table, the table of a text. No program's function is named in it. No condition.
-/
import Derived.Test.YtlpmbjgimllmgaaDoorBytes
namespace Go.Proofs.YtlpmbjgimllmgaaDoor
open Go Go.RowKit
set_option linter.unusedVariables false

structure To where
  ln : Int
  lw : Int
  rd : Int
  rw : Int
deriving DecidableEq
def toC (t : To) : List Value := [.int .i64 t.ln, .int .i64 t.lw, .int .i64 t.rd, .int .i64 t.rw]
def tosC (l : List To) : List Value := l.flatMap toC
theorem tosC_len (l : List To) : (tosC l).length = l.length * 4 := by
  induction l with
  | nil => rfl
  | cons t l ih => rw [tosC, List.flatMap_cons, List.length_append, ← tosC, ih]; show 4 + _ = (l.length + 1) * 4; omega
theorem tosC_snoc (l : List To) (t : To) : tosC (l ++ [t]) = tosC l ++ toC t := by simp [tosC]
theorem tosC_at : ∀ (l : List To) (i j : Nat) (t : To), l[i]? = some t → j < 4 → (tosC l)[i * 4 + j]? = (toC t)[j]?
  | [], i, j, t, h, _ => by simp at h
  | x :: l, 0, j, t, h, hj => by
    simp at h
    subst h
    rw [tosC, List.flatMap_cons, List.getElem?_append_left (by show _ < 4; omega)]
    simp
  | x :: l, i + 1, j, t, h, hj => by
    simp only [List.getElem?_cons_succ] at h
    rw [tosC, List.flatMap_cons, List.getElem?_append_right (by show 4 ≤ _; omega), ← tosC]
    show (tosC l)[(i + 1) * 4 + j - 4]? = _
    rw [show (i + 1) * 4 + j - 4 = i * 4 + j by omega]
    exact tosC_at l i j t h hj
theorem tosC_one (l : List To) : ∀ u ∈ tosC l, u.oneCell' = true := by
  intro u hu
  obtain ⟨t, _, hu⟩ := List.mem_flatMap.1 hu
  unfold toC at hu
  simp only [List.mem_cons, List.not_mem_nil, or_false] at hu
  rcases hu with rfl | rfl | rfl | rfl <;> rfl

/-! ### Valid tables -/
def inC (n : Int) : Prop := -1048576 ≤ n ∧ n ≤ 1048576
instance (n : Int) : Decidable (inC n) := by unfold inC; exact inferInstance
def toGood (t : To) : Bool := decide (inC t.ln ∧ inC t.lw ∧ inC t.rd ∧ inC t.rw ∧ 0 ≤ t.ln + t.lw ∧ t.ln + t.lw ≤ 1048576 ∧ 0 ≤ t.rd + t.rw ∧ t.rd + t.rw ≤ 32768)
def validT (l : List To) : Bool := decide (l.length ≤ 32) && l.all toGood
theorem toGood_iff (t : To) : toGood t = true ↔ inC t.ln ∧ inC t.lw ∧ inC t.rd ∧ inC t.rw ∧ 0 ≤ t.ln + t.lw ∧ t.ln + t.lw ≤ 1048576 ∧ 0 ≤ t.rd + t.rw ∧ t.rd + t.rw ≤ 32768 := by unfold toGood; simp
theorem all_drop {l : List To} {i : Nat} {t : To} (h : l[i]? = some t) : (l.drop i).all toGood = (toGood t && (l.drop (i + 1)).all toGood) := by
  obtain ⟨hl, rfl⟩ := List.getElem?_eq_some_iff.1 h
  rw [List.drop_eq_getElem_cons hl, List.all_cons]
theorem all_end {l : List To} {i : Nat} (h : l.length ≤ i) : (l.drop i).all toGood = true := by rw [List.drop_eq_nil_of_le h]; rfl
theorem validT_all {l : List To} (h : validT l = true) : l.length ≤ 32 ∧ ∀ t ∈ l, toGood t = true := by
  unfold validT at h
  rw [Bool.and_eq_true] at h
  exact ⟨of_decide_eq_true h.1, List.all_eq_true.1 h.2⟩
/-- The length of a tool: the number and the error. -/
def lenR (l : List To) (code h : Int) : Int × Int :=
  if validT l = false ∨ (code ≠ 43 ∧ code ≠ 44 ∧ code ≠ 49) then (0, 1)
  else if code = 49 ∨ h = 0 then (0, 0)
  else if h < 0 ∨ (l.length : Int) < h then (0, 6)
  else match l[(h - 1).toNat]? with
    | none => (0, 6)
    | some t => if code = 44 then (- (t.ln + t.lw), 0) else (t.ln + t.lw, 0)
def radR (l : List To) (d : Int) : Int × Int :=
  if validT l = false then (0, 1)
  else if d = 0 then (0, 0)
  else if d < 0 ∨ (l.length : Int) < d then (0, 6)
  else match l[(d - 1).toNat]? with
    | none => (0, 6)
    | some t => (t.rd + t.rw, 0)
/-! ### Texts -/
/-- The text of a tool. -/
def fmtO (t : To) : List UInt8 := Lib.itoa t.ln ++ [32] ++ Lib.itoa t.lw ++ [32] ++ Lib.itoa t.rd ++ [32] ++ Lib.itoa t.rw ++ [10]
def fmtOs (l : List To) : List UInt8 := l.flatMap fmtO
/-- The text of a table. -/
def formatT (l : List To) : List UInt8 := if validT l = true then fmtOs l else []
theorem fmtOs_snoc (l : List To) (t : To) : fmtOs (l ++ [t]) = fmtOs l ++ fmtO t := by simp [fmtOs]
theorem pow8 : (10 : Nat) ^ (7 + 1) = 100000000 := by decide
theorem inC_itoa {n : Int} (h : inC n) : (Lib.itoa n).length ≤ 9 := itoa_most (k := 7) (by rw [pow8]; obtain ⟨h1, h2⟩ := h; omega)
theorem fmtO_len {t : To} (h : toGood t = true) : (fmtO t).length ≤ 40 := by
  obtain ⟨h1, h2, h3, h4, _⟩ := (toGood_iff t).1 h
  have := inC_itoa h1
  have := inC_itoa h2
  have := inC_itoa h3
  have := inC_itoa h4
  unfold fmtO
  simp only [List.length_append, List.length_cons, List.length_nil]
  omega
theorem fmtOs_len : ∀ {l : List To}, (∀ t ∈ l, toGood t = true) → (fmtOs l).length ≤ 40 * l.length
  | [], _ => by simp [fmtOs]
  | t :: l, h => by
    have h1 := fmtO_len (h t List.mem_cons_self)
    have h2 := fmtOs_len (l := l) fun x hx => h x (List.mem_cons_of_mem _ hx)
    unfold fmtOs at h2 ⊢
    rw [List.flatMap_cons, List.length_append, List.length_cons]
    omega
theorem take_snoc {α : Type} {l : List α} {k : Nat} {x : α} (h : l[k]? = some x) : l.take (k + 1) = l.take k ++ [x] := by
  obtain ⟨hl, rfl⟩ := List.getElem?_eq_some_iff.1 h
  rw [List.take_succ_eq_append_getElem hl]
end Go.Proofs.YtlpmbjgimllmgaaDoor
