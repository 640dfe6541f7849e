/-
  Steps behind one another; what stands behind a separator does not turn the steps ahead of it. No condition.
-/
import Derived.Test.YtiphekdahmiaeaaDoorStep05
namespace Go.Proofs.YtiphekdahmiaeaaDoor
open Go Go.RowKit
set_option linter.unusedVariables false

def Sep (v : List UInt8) : Prop := v = [] ∨ ∃ c r, v = c :: r ∧ (c = 32 ∨ c = 9)
theorem idx_in : ∀ (u v : List UInt8) (c : UInt8), Lib.indexByte u c ≠ -1 → Lib.indexByte (u ++ v) c = Lib.indexByte u c
  | [], v, c, h => absurd (by rw [Lib.indexByte]) h
  | b :: u, v, c, h => by
    rw [List.cons_append, Lib.indexByte, Lib.indexByte]
    rw [Lib.indexByte] at h
    split
    · rfl
    · rename_i hb
      rw [if_neg hb] at h
      have h' : Lib.indexByte u c ≠ -1 := by
        intro e
        rw [e] at h
        exact h rfl
      rw [idx_in u v c h']
theorem idx_out : ∀ (u v : List UInt8) (c : UInt8), Lib.indexByte u c = -1 → Lib.indexByte (u ++ v) c = -1 ∨ (u.length : Int) ≤ Lib.indexByte (u ++ v) c
  | [], v, c, h => by
    have := Lib.indexByte_ge v c
    rw [List.nil_append, List.length_nil]
    omega
  | b :: u, v, c, h => by
    rw [Lib.indexByte] at h
    split at h
    · cases h
    · rename_i hb
      have h1 := Lib.indexByte_ge u c
      have h' : Lib.indexByte u c = -1 := by
        split at h
        · rename_i e; simpa using e
        · rename_i e; simp at e; omega
      rw [List.cons_append, Lib.indexByte, if_neg hb, List.length_cons]
      rcases idx_out u v c h' with e | e
      · rw [e]; exact .inl rfl
      · have : (Lib.indexByte (u ++ v) c == -1) = false := by simp; omega
        rw [this]
        right
        simp
        omega
theorem idx_sep (u v v' : List UInt8) (c : UInt8) {o : Nat} (h : Lib.indexByte (u ++ v) c = o) (ho : o < u.length) : Lib.indexByte (u ++ v') c = o := by
  by_cases e : Lib.indexByte u c = -1
  · rcases idx_out u v c e with e2 | e2 <;> omega
  · rw [idx_in u v' c e, ← idx_in u v c e, h]
theorem num_sep {v : List UInt8} (h : Sep v) : v.takeWhile num = [] := by
  rcases h with rfl | ⟨c, r, rfl, rfl | rfl⟩
  · rfl
  · rw [List.takeWhile_cons]; rfl
  · rw [List.takeWhile_cons]; rfl
theorem take_sep {u v v' : List UInt8} (h : ((u ++ v).takeWhile num).length ≤ u.length) (hs : Sep v') : (u ++ v').takeWhile num = (u ++ v).takeWhile num := by
  rw [List.takeWhile_append, List.takeWhile_append]
  by_cases e : (u.takeWhile num).length = u.length
  · rw [List.takeWhile_append, if_pos e, List.length_append] at h
    rw [if_pos e, if_pos e, num_sep hs, List.length_eq_zero_iff.1 (by omega : (v.takeWhile num).length = 0)]
  · rw [if_neg e, if_neg e]
theorem names_letters : ∀ nm ∈ namesL, ∀ c ∈ nm, c ≠ (32 : UInt8) ∧ c ≠ (9 : UInt8) := by
  intro nm h c hc
  have hall : (namesL.all fun nm => nm.all fun c => c != 32 && c != 9) = true := by decide
  have := List.all_eq_true.1 (List.all_eq_true.1 hall nm h) c hc
  simpa using this
theorem prefix_sep {nm u v : List UInt8} (hn : nm ∈ namesL) (hs : Sep v) : nm.isPrefixOf (u ++ v) = nm.isPrefixOf u := by
  rw [Bool.eq_iff_iff, List.isPrefixOf_iff_prefix, List.isPrefixOf_iff_prefix]
  constructor
  · intro h
    rcases hs with rfl | ⟨c, r, rfl, hc⟩
    · rwa [List.append_nil] at h
    · by_cases hl : nm.length ≤ u.length
      · exact List.prefix_of_prefix_length_le h (List.prefix_append _ _) hl
      · exfalso
        have h2 : (u ++ [c]) <+: nm := List.prefix_of_prefix_length_le (l₃ := u ++ c :: r) ⟨r, by simp⟩ h (by simp; omega)
        have hm : c ∈ nm := h2.subset (by simp)
        have := names_letters nm hn c hm
        rcases hc with e | e
        · exact this.1 e
        · exact this.2 e
  · intro h
    exact h.trans (List.prefix_append _ _)
theorem longG_max {l : List UInt8} : ∀ (ns : List (List UInt8)) (b nm : List UInt8), nm ∈ ns → nm <+: l → nm.length ≤ (longG l ns b).length
  | n :: ns, b, nm, h, hp => by
    rw [longG]
    rcases List.mem_cons.1 h with rfl | h
    · refine Nat.le_trans ?_ (longG_len ns _)
      split
      · exact Nat.le_refl _
      · rename_i hc
        rcases Nat.lt_or_ge b.length nm.length with hb | hb
        · exact absurd ⟨hb, List.isPrefixOf_iff_prefix.2 hp⟩ hc
        · exact hb
    · exact longG_max ns _ nm h hp
theorem longG_congr {l l' : List UInt8} : ∀ (ns : List (List UInt8)) (b : List UInt8), (∀ nm ∈ ns, nm.isPrefixOf l = nm.isPrefixOf l') → longG l ns b = longG l' ns b
  | [], _, _ => rfl
  | n :: ns, b, h => by
    rw [longG, longG, h n (List.mem_cons_self)]
    exact longG_congr ns _ fun nm hm => h nm (List.mem_cons_of_mem _ hm)
theorem longest_sep {u v v' : List UInt8} (h : (longest (u ++ v)).length ≤ u.length) (hs : Sep v') : longest (u ++ v') = longest (u ++ v) := by
  refine longG_congr _ _ fun nm hm => ?_
  rw [prefix_sep hm hs, Bool.eq_iff_iff, List.isPrefixOf_iff_prefix, List.isPrefixOf_iff_prefix]
  constructor
  · intro hp; exact hp.trans (List.prefix_append _ _)
  · intro hp
    have := longG_max namesL [] nm hm hp
    exact List.prefix_of_prefix_length_le hp (List.prefix_append _ _) (Nat.le_trans this h)
theorem step_sep {u v v' : List UInt8} {x : Option (Int × Int × List UInt8)} {k : Nat} (h : stepL (u ++ v) = some (x, k)) (hk : k ≤ u.length) (h59 : (59 : UInt8) ∉ u) (hs : Sep v') : stepL (u ++ v') = some (x, k) := by
  cases u with
  | nil =>
    have := step_pos h
    simp at hk
    omega
  | cons c r =>
    have hc59 : c ≠ 59 := fun e => h59 (by rw [e]; simp)
    rw [List.cons_append, stepL] at h ⊢
    by_cases hb : blankB c.toNat = true
    · rw [if_pos hb] at h ⊢; exact h
    · rw [if_neg hb, if_neg hc59] at h ⊢
      by_cases h40 : c = 40
      · rw [if_pos h40] at h ⊢
        by_cases hi : Lib.indexByte (c :: (r ++ v)) 41 = -1
        · rw [if_pos hi] at h; cases h
        · rw [if_neg hi] at h
          have hge := Lib.indexByte_ge (c :: (r ++ v)) 41
          obtain ⟨o, ho⟩ : ∃ o : Nat, Lib.indexByte (c :: (r ++ v)) 41 = o := ⟨(Lib.indexByte (c :: (r ++ v)) 41).toNat, by omega⟩
          rw [ho] at h
          injection h with h
          injection h with h1 h2
          have ho2 := idx_sep (c :: r) v v' 41 ho (by omega)
          rw [List.cons_append] at ho2
          rw [ho2, if_neg (by omega), h1, h2]
      · rw [if_neg h40] at h ⊢
        by_cases hn : num c = true
        · rw [if_pos hn] at h ⊢
          have ht : ((c :: (r ++ v)).takeWhile num).length ≤ (c :: r).length := by
            split at h
            · injection h with h
              injection h with h1 h2
              omega
            · cases h
          have := take_sep (u := c :: r) (v := v) (v' := v') ht hs
          rw [List.cons_append, List.cons_append] at this
          rw [this]
          exact h
        · rw [if_neg hn] at h ⊢
          by_cases hl : lettB c.toNat = true
          · rw [if_pos hl] at h ⊢
            have ht : (longest (c :: (r ++ v))).length ≤ (c :: r).length := by
              split at h
              · rename_i e; rw [e]; simp
              · simp only [Option.some.injEq, Prod.mk.injEq] at h
                rw [h.2]; exact hk
            have := longest_sep (u := c :: r) (v := v) (v' := v') ht hs
            rw [List.cons_append, List.cons_append] at this
            rw [this]
            exact h
          · rw [if_neg hl] at h ⊢
            exact h

/-! ### Steps behind one another -/
inductive Chain (v : List UInt8) : List UInt8 → Nat → List TokL → Prop
  | nil (p : Nat) : Chain v [] p []
  | skip {u : List UInt8} {p k : Nat} {ts : List TokL} : stepL (u ++ v) = some (none, k) → k ≤ u.length → Chain v (u.drop k) (p + k) ts → Chain v u p ts
  | tok {u : List UInt8} {p k : Nat} {kd n : Int} {tx : List UInt8} {ts : List TokL} : stepL (u ++ v) = some (some (kd, n, tx), k) → k ≤ u.length → Chain v (u.drop k) (p + k) ts → Chain v u p (⟨kd, n, p, tx⟩ :: ts)
theorem chain_of_lexF : ∀ (f : Nat) (l : List UInt8) (p : Nat) (ts : List TokL), l.length ≤ f → lexF f l p = .ok ts → Chain [] l p ts
  | _, [], p, ts, _, h => by
    rw [lexF.eq_def] at h
    simp at h
    subst h
    exact .nil p
  | 0, c :: r, _, ts, hf, h => by simp at hf
  | f + 1, c :: r, p, ts, hf, h => by
    rw [lexF] at h
    cases hs : stepL (c :: r) with
    | none => rw [hs] at h; cases h
    | some xk =>
      obtain ⟨x, k⟩ := xk
      have hk := step_pos hs
      have hd : ((c :: r).drop k).length = (c :: r).length - k := List.length_drop
      simp only [List.length_cons] at hd hf hk
      rw [hs] at h
      cases x with
      | none => exact .skip (by rw [List.append_nil]; exact hs) (by simp; omega) (chain_of_lexF f _ _ ts (by omega) h)
      | some t =>
        obtain ⟨kd, n, tx⟩ := t
        simp only at h
        cases hr : lexF f ((c :: r).drop k) (p + k) with
        | bad q => rw [hr] at h; cases h
        | ok us =>
          rw [hr] at h
          simp only [Res.join] at h
          injection h with h
          subst h
          exact .tok (by rw [List.append_nil]; exact hs) (by simp; omega) (chain_of_lexF f _ _ us (by omega) hr)
theorem chain_of_lex {l : List UInt8} {p : Nat} {ts : List TokL} (h : lexT l p = .ok ts) : Chain [] l p ts := chain_of_lexF _ l p ts (Nat.le_refl _) h
theorem Chain.lex {v u : List UInt8} {p : Nat} {ts : List TokL} (h : Chain v u p ts) : lexT (u ++ v) p = Res.join ts (lexT v (p + u.length)) := by
  induction h with
  | nil p => rw [List.nil_append, List.length_nil, Nat.add_zero, Res.join_nil]
  | skip hs hk _ ih =>
    rw [lexT_skip hs, List.drop_append_of_le_length hk, ih, List.length_drop]
    congr 2
    omega
  | tok hs hk _ ih =>
    rw [lexT_tok hs, List.drop_append_of_le_length hk, ih, List.length_drop, Res.join_join]
    congr 2
    omega
theorem Chain.sep {v v' u : List UInt8} {p : Nat} {ts : List TokL} (h : Chain v u p ts) (h59 : (59 : UInt8) ∉ u) (hs : Sep v') : Chain v' u p ts := by
  induction h with
  | nil p => exact .nil p
  | skip h1 hk _ ih => exact .skip (step_sep h1 hk h59 hs) hk (ih (fun hm => h59 (List.mem_of_mem_drop hm)))
  | tok h1 hk _ ih => exact .tok (step_sep h1 hk h59 hs) hk (ih (fun hm => h59 (List.mem_of_mem_drop hm)))
/-- A line without a ';', and what stands behind a separator. -/
theorem lex_sep {l v : List UInt8} {ts : List TokL} (h : lexT l 0 = .ok ts) (h59 : (59 : UInt8) ∉ l) (hs : Sep v) : lexT (l ++ v) 0 = Res.join ts (lexT v l.length) := by
  have := ((chain_of_lex h).sep h59 hs).lex
  rwa [Nat.zero_add] at this
theorem lex_space {v : List UInt8} (p : Nat) : lexT (32 :: v) p = lexT v (p + 1) := by
  have : stepL (32 :: v) = some (none, 1) := by rw [stepL]; rfl
  rw [lexT_skip this]
  rfl
/-! ### Offsets -/
def shiftK (d : Nat) (t : TokL) : TokL := ⟨t.kind, t.n, t.pos + d, t.text⟩
def Res.shift (d : Nat) : Res → Res
  | .bad p => .bad (p + d)
  | .ok ts => .ok (ts.map (shiftK d))
theorem lexF_shift (d : Nat) : ∀ (f : Nat) (l : List UInt8) (p : Nat), lexF f l (p + d) = Res.shift d (lexF f l p)
  | f, [], p => by rw [lexF.eq_def, lexF.eq_def]; rfl
  | 0, c :: r, p => by rw [lexF, lexF]; rfl
  | f + 1, c :: r, p => by
    rw [lexF, lexF]
    cases hs : stepL (c :: r) with
    | none => rfl
    | some xk =>
      obtain ⟨x, k⟩ := xk
      have ih := lexF_shift d f ((c :: r).drop k) (p + k)
      rw [show p + k + d = p + d + k by omega] at ih
      cases x with
      | none => exact ih
      | some t =>
        obtain ⟨kd, n, tx⟩ := t
        simp only
        rw [ih]
        cases lexF f ((c :: r).drop k) (p + k) <;> rfl
theorem lexT_shift (l : List UInt8) (d : Nat) : lexT l d = Res.shift d (lexT l 0) := by
  have := lexF_shift d l.length l 0
  rwa [Nat.zero_add] at this
end Go.Proofs.YtiphekdahmiaeaaDoor
