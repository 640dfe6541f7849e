/-
  Expressions as trees; which of them, and which blocks, are right. No condition.
-/
import Derived.Test.YteiogjgmedikhaaBase
namespace Go.Proofs.Yteiogjgmedikhaa
open Go Go.RowKit
set_option linter.unusedVariables false

inductive Ex where
  | mk (op n : Int) (kids : List Ex)
def Ex.op : Ex → Int | .mk op _ _ => op
def Ex.n : Ex → Int | .mk _ n _ => n
def Ex.kids : Ex → List Ex | .mk _ _ ks => ks
/-- How many kids an operator has; -1: no operator. -/
def kidsN (op : Int) : Int :=
  if op = 0 then 0
  else if op = 1 ∨ op = 2 ∨ (8 ≤ op ∧ op ≤ 10) ∨ (12 ≤ op ∧ op ≤ 16) then 1
  else if (3 ≤ op ∧ op ≤ 7) ∨ op = 11 ∨ (17 ≤ op ∧ op ≤ 25) then 2
  else -1
/-- What syntax.right computes. -/
def rightE : Nat → Ex → Bool
  | 0, _ => false
  | m + 1, .mk op n ks => if (ks.length : Int) ≠ kidsN op then false else if op = 0 then decide (0 ≤ n ∧ n < 1000000000000000) else ks.all (rightE m) && decide (n = 0)
/-- What cncref06.right computes. -/
def kidsR (op : Int) : Int := if op = 0 then 0 else if (3 ≤ op ∧ op ≤ 7) ∨ op = 11 ∨ (17 ≤ op ∧ op ≤ 25) then 2 else 1
def rightR : Nat → Ex → Bool
  | 0, _ => false
  | m + 1, .mk op n ks => if op < 0 ∨ 25 < op ∨ (ks.length : Int) ≠ kidsR op ∨ (op ≠ 0 ∧ n ≠ 0) ∨ n < 0 ∨ 1000000000000000 ≤ n then false else ks.all (rightR m)
theorem kids_same {op : Int} (h0 : 0 ≤ op) (h1 : op ≤ 25) : kidsR op = kidsN op := by
  unfold kidsR kidsN
  repeat' split
  all_goals omega
theorem kids_out {op : Int} (h : op < 0 ∨ 25 < op) : kidsN op = -1 := by
  unfold kidsN
  repeat' split
  all_goals omega
theorem right_same : ∀ (m : Nat) (x : Ex), rightR m x = rightE m x
  | 0, _ => rfl
  | m + 1, .mk op n ks => by
    have ih : rightR m = rightE m := funext fun x => right_same m x
    unfold rightR rightE
    rw [ih]
    by_cases h : op < 0 ∨ 25 < op
    · rw [kids_out h, if_pos (by omega), if_pos (by omega)]
    · rw [kids_same (by omega) (by omega)]
      by_cases hk : (ks.length : Int) ≠ kidsN op
      · rw [if_pos (by omega), if_pos hk]
      · rw [if_neg (c := (ks.length : Int) ≠ kidsN op) hk]
        by_cases h0 : op = 0
        · subst h0
          have hks : ks = [] := by
            have : kidsN 0 = 0 := rfl
            rw [this] at hk
            exact List.length_eq_zero_iff.1 (by omega)
          subst hks
          rw [if_pos (c := (0 : Int) = 0) rfl]
          by_cases hn : n < 0 ∨ 1000000000000000 ≤ n
          · rw [if_pos (by omega), decide_eq_false (by omega)]
          · rw [if_neg (by omega), decide_eq_true (by omega)]
            rfl
        · rw [if_neg (c := op = 0) h0]
          by_cases hn : n = 0
          · rw [if_neg (by omega), decide_eq_true hn, Bool.and_true]
          · rw [if_pos (by omega), decide_eq_false hn, Bool.and_false]
def zeroE (x : Ex) : Bool := decide (x.op = 0 ∧ x.n = 0 ∧ x.kids.length = 0)
structure WordL where
  letter : Int
  x : Ex
structure BlkL where
  kind : Int
  label : Int
  skip : Bool
  words : List WordL
  left : Ex
  x : Ex
  n : Int
def wordB (w : WordL) : Bool := decide (65 ≤ w.letter ∧ w.letter ≤ 90 ∧ w.letter ≠ 78 ∧ w.letter ≠ 79) && rightE 16 w.x
/-- What syntax.Valid computes. -/
def validB (b : BlkL) : Bool :=
  if b.label < 0 ∨ 99999 < b.label ∨ 24 < b.words.length then false
  else if b.kind = 0 then zeroE b.left && zeroE b.x && decide (b.n = 0) && b.words.all wordB
  else if b.kind < 0 ∨ 6 < b.kind then false
  else if b.words.length > 0 then false
  else if (if b.kind = 1 ∨ b.kind = 3 then rightE 16 b.left else zeroE b.left) = false then false
  else if (if b.kind = 1 ∨ b.kind = 3 ∨ b.kind = 2 ∨ b.kind = 4 then rightE 16 b.x else zeroE b.x) = false then false
  else if b.kind = 4 ∨ b.kind = 5 then decide (1 ≤ b.n ∧ b.n ≤ 3)
  else if b.kind = 6 then decide (1 ≤ b.n ∧ b.n ≤ 99999)
  else decide (b.n = 0)

/-! ### In memory -/
/-- The three cells of an expression, when its kids lie at an address. -/
def exC (op n : Int) (a : Option Addr) (len cap : Nat) : List Value := [.int .i64 op, .int .i64 n, .slice a len cap]
/-- A tree in memory: 'k' tells where each kid's own kids lie. -/
inductive ExAt (W : World) : Ex → Option Addr → Nat → Prop
  | mk {op n : Int} {kids : List Ex} {a : Option Addr} {cap : Nat} (k : Nat → Option Addr × Nat)
      (hn : kids = [] ∨ ∃ b o, a = some ⟨b, o, none⟩ ∧ b < W.heap.size ∧
        ∀ (i : Nat) (x : Ex), kids[i]? = some x → ∀ j v, (exC x.op x.n (k i).1 x.kids.length (k i).2)[j]? = some v → W.cell? ⟨b, o + i * 3 + j, none⟩ = some v)
      (hc : kids.length ≤ cap) (hm : cap ≤ 9223372036854775807)
      (h : ∀ (i : Nat) (x : Ex), kids[i]? = some x → ExAt W x (k i).1 (k i).2) : ExAt W (.mk op n kids) a cap
theorem ExAt.under {W W' : World} {x : Ex} {a : Option Addr} {cap : Nat} (h : ExAt W x a cap) (hb : Below W.heap.size W W') : ExAt W' x a cap := by
  induction h with
  | mk k hn hc hm _ ih =>
    refine .mk k ?_ hc hm ih
    rcases hn with hn | ⟨b, o, e, hl, hcell⟩
    · exact .inl hn
    · exact .inr ⟨b, o, e, by have := hb.size; omega, fun i x hx j v hv => (hb.cell (p := ⟨b, o + i * 3 + j, none⟩) hl).trans (hcell i x hx j v hv)⟩
end Go.Proofs.Yteiogjgmedikhaa
