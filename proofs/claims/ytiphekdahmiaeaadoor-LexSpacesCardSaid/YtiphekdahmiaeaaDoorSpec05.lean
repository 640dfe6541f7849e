/-
  The tokens of a line: one step, all steps. No condition.
-/
import Derived.Test.YtiphekdahmiaeaaDoorLex05
namespace Go.Proofs.YtiphekdahmiaeaaDoor
open Go Go.RowKit
set_option linter.unusedVariables false

structure TokL where
  kind : Int
  n : Int
  pos : Nat
  text : List UInt8
def tokC (t : TokL) : List Value := [.int .i64 t.kind, .int .i64 t.n, .int .i64 t.pos, .string (mkB t.text)]
def toksC (ts : List TokL) : List Value := ts.flatMap tokC
theorem toksC_len (ts : List TokL) : (toksC ts).length = ts.length * 4 := by
  induction ts with
  | nil => rfl
  | cons t ts ih => simp [toksC, tokC] at ih ⊢; omega
theorem toksC_snoc (ts : List TokL) (t : TokL) : toksC (ts ++ [t]) = toksC ts ++ tokC t := by simp [toksC]
theorem toksC_at : ∀ (ts : List TokL) (i j : Nat) (t : TokL), ts[i]? = some t → j < 4 → (toksC ts)[i * 4 + j]? = (tokC t)[j]?
  | [], i, j, t, h, _ => by simp at h
  | u :: ts, 0, j, t, h, hj => by
    simp at h; subst h
    simp only [toksC, List.flatMap_cons, Nat.zero_mul, Nat.zero_add]
    rw [List.getElem?_append_left (by simp [tokC]; omega)]
  | u :: ts, i + 1, j, t, h, hj => by
    have := toksC_at ts i j t (by simpa using h) hj
    rw [← this]
    simp only [toksC, List.flatMap_cons]
    rw [List.getElem?_append_right (by simp [tokC]; omega)]
    congr 1
    simp [tokC]; omega
theorem toksC_one (ts : List TokL) : ∀ u ∈ toksC ts, u.oneCell' = true := by
  intro u hu
  obtain ⟨t, _, ht⟩ := List.mem_flatMap.1 hu
  simp [tokC] at ht
  rcases ht with rfl | rfl | rfl | rfl <;> rfl

def lettB (c : Int) : Bool := decide (65 ≤ c ∧ c ≤ 90)
def blankB (c : Int) : Bool := decide (c = 32 ∨ c = 9 ∨ c = 13)
/-- One step: nothing fits, or what is skipped, or a token (kind, number, text); how many bytes it takes. -/
def stepL : List UInt8 → Option (Option (Int × Int × List UInt8) × Nat)
  | [] => none
  | c :: r =>
    if blankB c.toNat = true then some (none, 1)
    else if c = 59 then some (none, r.length + 1)
    else if c = 40 then (if Lib.indexByte (c :: r) 41 = -1 then none else some (none, (Lib.indexByte (c :: r) 41).toNat + 1))
    else if num c = true then (match parseF ((c :: r).takeWhile num) with | some n => some (some (2, n, []), ((c :: r).takeWhile num).length) | none => none)
    else if lettB c.toNat = true then (if longest (c :: r) = [] then some (some (1, (c.toNat : Int), []), 1) else some (some (3, 0, longest (c :: r)), (longest (c :: r)).length))
    else if sgnB c.toNat = true then some (some (4, 0, [c]), 1)
    else none
inductive Res where
  | bad (pos : Nat)
  | ok (ts : List TokL)
def Res.join (pre : List TokL) : Res → Res
  | .bad a => .bad a
  | .ok ts => .ok (pre ++ ts)
theorem Res.join_join (a b : List TokL) (r : Res) : Res.join a (Res.join b r) = Res.join (a ++ b) r := by cases r <;> simp [Res.join]
theorem Res.join_nil (r : Res) : Res.join [] r = r := by cases r <;> simp [Res.join]
def lexF : Nat → List UInt8 → Nat → Res
  | _, [], _ => .ok []
  | 0, _ :: _, p => .bad p
  | f + 1, c :: r, p => match stepL (c :: r) with
    | none => .bad p
    | some (none, k) => lexF f ((c :: r).drop k) (p + k)
    | some (some (kd, n, tx), k) => Res.join [⟨kd, n, p, tx⟩] (lexF f ((c :: r).drop k) (p + k))
def lexT (l : List UInt8) (p : Nat) : Res := lexF l.length l p

theorem longG_len {l : List UInt8} : ∀ (ns : List (List UInt8)) (b : List UInt8), b.length ≤ (longG l ns b).length
  | [], b => Nat.le_refl _
  | nm :: ns, b => by
    rw [longG]
    refine Nat.le_trans ?_ (longG_len ns _)
    split
    · rename_i h; omega
    · exact Nat.le_refl _
theorem longG_prefix {l : List UInt8} : ∀ (ns : List (List UInt8)) (b : List UInt8), b <+: l → longG l ns b <+: l
  | [], b, h => h
  | nm :: ns, b, h => by
    rw [longG]
    refine longG_prefix ns _ ?_
    split
    · rename_i h2; exact List.isPrefixOf_iff_prefix.1 h2.2
    · exact h
theorem longest_prefix (l : List UInt8) : longest l <+: l := longG_prefix _ _ (List.nil_prefix)
theorem idx_bd {l : List UInt8} {c : UInt8} (h : Lib.indexByte l c ≠ -1) : (Lib.indexByte l c).toNat < l.length := by
  have h0 := Lib.indexByte_ge l c
  obtain ⟨o, ho⟩ : ∃ o : Nat, Lib.indexByte l c = o := ⟨(Lib.indexByte l c).toNat, by omega⟩
  have := (Lib.indexByte_some ho).1
  have := (List.getElem?_eq_some_iff.1 this).1
  omega
/-- A step takes at least one byte and at most all. -/
theorem step_pos {l : List UInt8} {x : Option (Int × Int × List UInt8)} {k : Nat} (h : stepL l = some (x, k)) : 1 ≤ k ∧ k ≤ l.length := by
  cases l with
  | nil => simp [stepL] at h
  | cons c r =>
    rw [stepL] at h
    have L : (c :: r).length = r.length + 1 := rfl
    split at h
    · injection h with h; injection h with _ h; omega
    · split at h
      · injection h with h; injection h with _ h; omega
      · split at h
        · split at h
          · cases h
          · rename_i hi
            injection h with h; injection h with _ h
            have := idx_bd hi
            omega
        · split at h
          · rename_i hn
            split at h
            · injection h with h; injection h with _ h
              rw [← h]
              have h1 : ((c :: r).takeWhile num).length ≤ (c :: r).length := (List.takeWhile_prefix _).length_le
              have h2 : (c :: r).takeWhile num = c :: r.takeWhile num := by rw [List.takeWhile_cons, if_pos hn]
              refine ⟨?_, h1⟩
              rw [h2]; simp
            · cases h
          · split at h
            · split at h
              · injection h with h; injection h with _ h; omega
              · rename_i hne
                injection h with h; injection h with _ h
                rw [← h]
                have h1 := (longest_prefix (c :: r)).length_le
                have h2 : (longest (c :: r)).length ≠ 0 := fun e => hne (List.length_eq_zero_iff.1 e)
                omega
            · split at h
              · injection h with h; injection h with _ h; omega
              · cases h
theorem lexF_more : ∀ (f g : Nat) (l : List UInt8) (p : Nat), l.length ≤ f → l.length ≤ g → lexF f l p = lexF g l p
  | _, _, [], _, _, _ => by rw [lexF.eq_def]; conv => rhs; rw [lexF.eq_def]
  | 0, _, _ :: _, _, h, _ => by simp at h
  | _, 0, _ :: _, _, _, h => by simp at h
  | f + 1, g + 1, c :: r, p, hf, hg => by
    rw [lexF, lexF]
    cases hs : stepL (c :: r) with
    | none => rfl
    | some xk =>
      obtain ⟨x, k⟩ := xk
      have hk := step_pos hs
      have hl : ((c :: r).drop k).length ≤ f ∧ ((c :: r).drop k).length ≤ g := by
        rw [List.length_drop]; simp at hf hg ⊢; omega
      have ih := lexF_more f g ((c :: r).drop k) (p + k) hl.1 hl.2
      cases x with
      | none => exact ih
      | some t => obtain ⟨kd, n, tx⟩ := t; simp only [ih]
theorem lexT_nil (p : Nat) : lexT [] p = .ok [] := rfl
theorem lexT_bad {l : List UInt8} (hl : l ≠ []) (h : stepL l = none) (p : Nat) : lexT l p = .bad p := by
  cases l with
  | nil => exact absurd rfl hl
  | cons c r => unfold lexT; rw [List.length_cons, lexF, h]
theorem lexT_skip {l : List UInt8} {k : Nat} (h : stepL l = some (none, k)) (p : Nat) : lexT l p = lexT (l.drop k) (p + k) := by
  cases l with
  | nil => simp [stepL] at h
  | cons c r =>
    unfold lexT
    rw [List.length_cons, lexF, h]
    have := step_pos h
    exact lexF_more _ _ _ _ (by rw [List.length_drop]; simp; omega) (Nat.le_refl _)
theorem lexT_tok {l : List UInt8} {k : Nat} {kd n : Int} {tx : List UInt8} (h : stepL l = some (some (kd, n, tx), k)) (p : Nat) : lexT l p = Res.join [⟨kd, n, p, tx⟩] (lexT (l.drop k) (p + k)) := by
  cases l with
  | nil => simp [stepL] at h
  | cons c r =>
    unfold lexT
    rw [List.length_cons, lexF, h]
    have := step_pos h
    simp only
    rw [lexF_more r.length _ _ _ (by rw [List.length_drop]; simp; omega) (Nat.le_refl _)]
end Go.Proofs.YtiphekdahmiaeaaDoor
