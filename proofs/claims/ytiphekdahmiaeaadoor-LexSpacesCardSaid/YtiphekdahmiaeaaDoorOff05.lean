/-
  What stands at a token's offset. No condition.
-/
import Derived.Test.YtiphekdahmiaeaaDoorChain05
namespace Go.Proofs.YtiphekdahmiaeaaDoor
open Go Go.RowKit
set_option linter.unusedVariables false

theorem fr_bd : ∀ (l : List UInt8) (m k j : Nat) (n : Int), 0 ≤ n → n < p10 (j + k) → 0 ≤ (fr m l k n).2 ∧ (fr m l k n).2 < p10 (j + (fr m l k n).1)
  | [], m, k, j, n, h0, h1 => by rw [fr]; exact ⟨h0, h1⟩
  | c :: l, m, k, j, n, h0, h1 => by
    rw [fr]
    by_cases h : dgt c = true ∧ k ≤ m
    · rw [if_pos h]
      have hd := h.1
      unfold dgt digB at hd
      have hd := of_decide_eq_true hd
      refine fr_bd l m (k + 1) j _ (by omega) ?_
      rw [← Nat.add_assoc, p10_succ]
      omega
    · rw [if_neg h]; exact ⟨h0, h1⟩
theorem p10_add (a b : Nat) : p10 (a + b) = p10 a * p10 b := by unfold p10; rw [Int.pow_add]
theorem mul_p10 {n : Int} {a b : Nat} (h0 : 0 ≤ n) (h : n < p10 a) : 0 ≤ n * p10 b ∧ n * p10 b < p10 (a + b) := by
  have hb := p10_pos b
  refine ⟨Int.mul_nonneg h0 (by omega), ?_⟩
  rw [p10_add]
  exact Int.mul_lt_mul_of_pos_right h (by omega)
theorem parse_bd {l : List UInt8} {v : Int} (h : parseF l = some v) : 0 ≤ v ∧ v < 1000000000000000 := by
  unfold parseF at h
  have h1 := fr_bd l 9 0 0 0 (Int.le_refl 0) (by unfold p10; decide)
  have e15 : p10 15 = 1000000000000000 := by unfold p10; decide
  split at h
  · cases h
  · rename_i h9
    split at h
    · have h2 := fr_bd (l.drop ((fr 9 l 0 0).1 + 1)) 6 0 (fr 9 l 0 0).1 (fr 9 l 0 0).2 h1.1 (by rw [Nat.zero_add] at h1; exact h1.2)
      split at h
      · cases h
      · rename_i h6
        injection h with h
        rw [← h]
        have h3 := mul_p10 (b := 6 - (fr 6 (l.drop ((fr 9 l 0 0).1 + 1)) 0 (fr 9 l 0 0).2).1) h2.1 h2.2
        refine ⟨h3.1, Int.lt_of_lt_of_le h3.2 ?_⟩
        rw [← e15]
        exact p10_mono (by omega)
    · split at h
      · cases h
      · injection h with h
        rw [← h]
        have h3 := mul_p10 (b := 6) h1.1 h1.2
        refine ⟨h3.1, Int.lt_of_lt_of_le h3.2 ?_⟩
        rw [← e15]
        exact p10_mono (by omega)

/-- What a token says of the bytes at its offset. -/
def TokOk (l : List UInt8) (k n : Int) (tx : List UInt8) : Prop := ∃ c r, l = c :: r ∧
  ((k = 1 ∧ n = c.toNat ∧ 65 ≤ n ∧ n ≤ 90 ∧ tx = []) ∨ (k = 2 ∧ numB c.toNat = true ∧ 0 ≤ n ∧ n < 1000000000000000 ∧ tx = []) ∨
   (k = 3 ∧ n = 0 ∧ tx <+: l ∧ isName tx = true) ∨ (k = 4 ∧ n = 0 ∧ tx <+: l ∧ isName tx = false))
theorem longG_in {l : List UInt8} : ∀ (ns : List (List UInt8)) (b : List UInt8), longG l ns b = b ∨ longG l ns b ∈ ns
  | [], b => .inl rfl
  | nm :: ns, b => by
    rw [longG]
    split
    · rcases longG_in (l := l) ns nm with e | e
      · right; rw [e]; exact List.mem_cons_self
      · right; exact List.mem_cons_of_mem _ e
    · rcases longG_in (l := l) ns b with e | e
      · left; exact e
      · right; exact List.mem_cons_of_mem _ e
theorem longest_name {l : List UInt8} (h : longest l ≠ []) : isName (longest l) = true := by
  rcases longG_in (l := l) namesL [] with e | e
  · exact absurd e h
  · unfold isName
    rw [List.contains_eq_mem, decide_eq_true_iff]
    exact e
theorem sign_name {c : UInt8} (h : sgnB c.toNat = true) : isName [c] = false := by
  have hall : (namesL.all fun nm => nm.length != 1) = true := by decide
  unfold isName
  rw [List.contains_eq_mem, decide_eq_false_iff_not]
  intro hm
  have := List.all_eq_true.1 hall _ hm
  simp at this
theorem step_ok {l : List UInt8} {kd n : Int} {tx : List UInt8} {k : Nat} (h : stepL l = some (some (kd, n, tx), k)) : TokOk l kd n tx := by
  cases l with
  | nil => simp [stepL] at h
  | cons c r =>
    rw [stepL] at h
    refine ⟨c, r, rfl, ?_⟩
    split at h
    · cases h
    · split at h
      · cases h
      · split at h
        · split at h <;> cases h
        · split at h
          · rename_i hn
            split at h
            · rename_i v hv
              injection h with h
              injection h with h1 h2
              injection h1 with h1
              injection h1 with e1 e2
              injection e2 with e2 e3
              subst e1 e2 e3
              have := parse_bd hv
              exact .inr (.inl ⟨rfl, hn, this.1, this.2, rfl⟩)
            · cases h
          · split at h
            · rename_i hL
              have hL := of_decide_eq_true hL
              split at h
              · injection h with h
                injection h with h1 h2
                injection h1 with h1
                injection h1 with e1 e2
                injection e2 with e2 e3
                subst e1 e2 e3
                exact .inl ⟨rfl, rfl, hL.1, hL.2, rfl⟩
              · rename_i hne
                injection h with h
                injection h with h1 h2
                injection h1 with h1
                injection h1 with e1 e2
                injection e2 with e2 e3
                subst e1 e2 e3
                exact .inr (.inr (.inl ⟨rfl, rfl, longest_prefix _, longest_name hne⟩))
            · split at h
              · rename_i hs
                injection h with h
                injection h with h1 h2
                injection h1 with h1
                injection h1 with e1 e2
                injection e2 with e2 e3
                subst e1 e2 e3
                exact .inr (.inr (.inr ⟨rfl, rfl, ⟨r, rfl⟩, sign_name hs⟩))
              · cases h
/-- The tokens of a line that stands at p. -/
structure Offs (l : List UInt8) (p : Nat) (ts : List TokL) : Prop where
  at_ : ∀ (i : Nat) (t : TokL), ts[i]? = some t → ∃ o, t.pos = p + o ∧ o < l.length ∧ TokOk (l.drop o) t.kind t.n t.text
  up : ∀ (i : Nat) (t u : TokL), ts[i]? = some t → ts[i + 1]? = some u → t.pos < u.pos
theorem lexF_offs : ∀ (f : Nat) (l : List UInt8) (p : Nat) (ts : List TokL), lexF f l p = .ok ts → Offs l p ts
  | _, [], p, ts, h => by
    rw [lexF.eq_def] at h
    simp at h
    subst h
    exact ⟨fun i t h => by simp at h, fun i t u h => by simp at h⟩
  | 0, _ :: _, _, ts, h => by rw [lexF] at h; cases h
  | f + 1, c :: r, p, ts, h => by
    rw [lexF] at h
    cases hs : stepL (c :: r) with
    | none => rw [hs] at h; cases h
    | some xk =>
      obtain ⟨x, k⟩ := xk
      have hk := step_pos hs
      rw [hs] at h
      have hd : ((c :: r).drop k).length = (c :: r).length - k := List.length_drop
      cases x with
      | none =>
        have ih := lexF_offs f _ _ ts h
        refine ⟨fun i t hi => ?_, ih.up⟩
        obtain ⟨o, e1, e2, e3⟩ := ih.at_ i t hi
        refine ⟨k + o, by omega, by omega, ?_⟩
        rw [List.drop_drop] at e3
        exact e3
      | some t =>
        obtain ⟨kd, n, tx⟩ := t
        simp only at h
        cases hr : lexF f ((c :: r).drop k) (p + k) with
        | bad q => rw [hr] at h; cases h
        | ok us =>
          rw [hr] at h
          have ih := lexF_offs f _ _ us hr
          simp only [Res.join] at h
          injection h with h
          subst h
          have at_' : ∀ (i : Nat) (t : TokL), us[i]? = some t → ∃ o, t.pos = p + o ∧ o < (c :: r).length ∧ TokOk ((c :: r).drop o) t.kind t.n t.text ∧ k ≤ o := fun i t hi => by
            obtain ⟨o, e1, e2, e3⟩ := ih.at_ i t hi
            refine ⟨k + o, by omega, by omega, ?_, by omega⟩
            rw [List.drop_drop] at e3
            exact e3
          refine ⟨fun i t hi => ?_, fun i t u hi hu => ?_⟩
          · cases i with
            | zero =>
              simp at hi
              subst hi
              exact ⟨0, rfl, by simp, step_ok hs⟩
            | succ i =>
              simp at hi
              obtain ⟨o, e1, e2, e3, _⟩ := at_' i t hi
              exact ⟨o, e1, e2, e3⟩
          · cases i with
            | zero =>
              simp at hi hu
              subst hi
              obtain ⟨o, e1, e2, e3, e4⟩ := at_' 0 u hu
              show p < u.pos
              omega
            | succ i =>
              simp at hi hu
              exact ih.up i t u hi hu
theorem lex_offs {s : ByteArray} {ts : List TokL} (h : lexT (bl s) 0 = .ok ts) : (∀ (i : Nat) (t : TokL), ts[i]? = some t → t.pos < s.size ∧ TokOk ((bl s).drop t.pos) t.kind t.n t.text) ∧ ∀ (i : Nat) (t u : TokL), ts[i]? = some t → ts[i + 1]? = some u → t.pos < u.pos := by
  have := lexF_offs _ _ _ _ h
  refine ⟨fun i t hi => ?_, this.up⟩
  obtain ⟨o, e1, e2, e3⟩ := this.at_ i t hi
  rw [Nat.zero_add] at e1
  rw [e1]
  rw [bl_len] at e2
  exact ⟨e2, e3⟩
end Go.Proofs.YtiphekdahmiaeaaDoor
