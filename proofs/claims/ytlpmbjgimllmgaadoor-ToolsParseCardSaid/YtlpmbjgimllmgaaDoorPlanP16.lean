/-
  Lines of tool tables in plain words: the tool of a line, the table of a text or why there is none. No program's function is named in it. No condition.
-/
import Derived.Test.YtlpmbjgimllmgaaDoorNumT16
namespace Go.Proofs.YtlpmbjgimllmgaaDoor
open Go Go.RowKit
set_option linter.unusedVariables false

/-- The tool of a line without its line feed. -/
def toolF (l : List UInt8) : Option To := match splitL 32 l with
  | [a, b, c, d] => (readF a).bind fun x => (readF b).bind fun y => (readF c).bind fun z => (readF d).map fun u => ⟨x, y, z, u⟩
  | _ => none
theorem tool_of {l a b c d : List UInt8} (h : splitL 32 l = [a, b, c, d]) : toolF l = (readF a).bind fun x => (readF b).bind fun y => (readF c).bind fun z => (readF d).map fun u => ⟨x, y, z, u⟩ := by unfold toolF; rw [h]
theorem tool_no {l : List UInt8} (h : (splitL 32 l).length ≠ 4) : toolF l = none := by
  unfold toolF
  split
  · rename_i a b c d e
    rw [e] at h
    exact absurd rfl h
  · rfl
theorem split4 {l a b c d : List UInt8} (h : splitL 32 l = [a, b, c, d]) : l = a ++ 32 :: (b ++ 32 :: (c ++ 32 :: d)) := by
  obtain ⟨_, h1⟩ := splitL_cons h
  rcases h1 with ⟨h1, _⟩ | ⟨r, e1, hr⟩
  · cases h1
  obtain ⟨_, h2⟩ := splitL_cons hr
  rcases h2 with ⟨h2, _⟩ | ⟨r2, e2, hr2⟩
  · cases h2
  obtain ⟨_, h3⟩ := splitL_cons hr2
  rcases h3 with ⟨h3, _⟩ | ⟨r3, e3, hr3⟩
  · cases h3
  obtain ⟨_, h4⟩ := splitL_cons hr3
  rcases h4 with ⟨_, e4⟩ | ⟨r4, _, hr4⟩
  · rw [e1, e2, e3, e4]
  · exact absurd hr4 (splitL_ne _ _)
/-- What Parse returns: the table, a number, the error; the first tools are known. -/
def parseG : Nat → List To → List UInt8 → List To × Int × Int
  | 0, acc, _ => ([], acc.length, 2)
  | f + 1, acc, l => if l = [] then (if validT acc = true then (acc, (acc.length : Int), 0) else ([], 0, 1)) else match cutL 10 l with
    | none => ([], acc.length, 2)
    | some (a, r) => match toolF a with
      | none => ([], acc.length, 2)
      | some t => parseG f (acc ++ [t]) r
def parseA (acc : List To) (l : List UInt8) : List To × Int × Int := parseG (l.length + 1) acc l
def parseT (l : List UInt8) : List To × Int × Int := parseA [] l
theorem cut_less {c : UInt8} {l a b : List UInt8} (h : cutL c l = some (a, b)) : a.length + 1 + b.length = l.length := by
  obtain ⟨e, _⟩ := cutL_some h
  rw [e]
  simp
  omega
theorem parseG_more : ∀ (f g : Nat) (acc : List To) (l : List UInt8), l.length < f → l.length < g → parseG f acc l = parseG g acc l
  | 0, _, _, _, h, _ => by omega
  | _, 0, _, _, _, h => by omega
  | f + 1, g + 1, acc, l, hf, hg => by
    rw [parseG, parseG]
    split
    · rfl
    · split
      · rfl
      · rename_i s r hc
        have := cut_less hc
        split
        · rfl
        · exact parseG_more f g _ r (by omega) (by omega)
theorem parseA_nil (acc : List To) : parseA acc [] = if validT acc = true then (acc, (acc.length : Int), 0) else ([], 0, 1) := by unfold parseA; rw [parseG, if_pos rfl]
theorem parseA_none {acc : List To} {l : List UInt8} (hl : l ≠ []) (h : cutL 10 l = none) : parseA acc l = ([], (acc.length : Int), 2) := by
  unfold parseA
  rw [parseG, if_neg hl, h]
theorem parseA_bad {acc : List To} {l a r : List UInt8} (h : cutL 10 l = some (a, r)) (ht : toolF a = none) : parseA acc l = ([], (acc.length : Int), 2) := by
  unfold parseA
  rw [parseG, if_neg (by rintro rfl; simp [cutL] at h), h]
  simp only [ht]
theorem parseA_tool {acc : List To} {l a r : List UInt8} {t : To} (h : cutL 10 l = some (a, r)) (ht : toolF a = some t) : parseA acc l = parseA (acc ++ [t]) r := by
  have := cut_less h
  unfold parseA
  rw [parseG, if_neg (by rintro rfl; simp [cutL] at h), h]
  simp only [ht]
  exact parseG_more _ _ _ _ (by omega) (by omega)

/-! ### Back and forth -/
theorem tool_fmt {t : To} (h : inC t.ln ∧ inC t.lw ∧ inC t.rd ∧ inC t.rw) {l : List UInt8} (hl : l ++ [10] = fmtO t) : toolF l = some t ∧ (10 : UInt8) ∉ l := by
  have e : l = Lib.itoa t.ln ++ 32 :: (Lib.itoa t.lw ++ 32 :: (Lib.itoa t.rd ++ 32 :: Lib.itoa t.rw)) := by
    have : l ++ [10] = (Lib.itoa t.ln ++ 32 :: (Lib.itoa t.lw ++ 32 :: (Lib.itoa t.rd ++ 32 :: Lib.itoa t.rw))) ++ [10] := by
      rw [hl]
      unfold fmtO
      simp
    exact List.append_cancel_right this
  obtain ⟨h1, h2, h3, h4⟩ := h
  have hs : splitL 32 l = [Lib.itoa t.ln, Lib.itoa t.lw, Lib.itoa t.rd, Lib.itoa t.rw] := by
    rw [e, splitL_app _ (itoa_32 _), splitL_app _ (itoa_32 _), splitL_app _ (itoa_32 _), splitL_none (itoa_32 _)]
  constructor
  · rw [tool_of hs, read_iff.2 ⟨h1, rfl⟩, read_iff.2 ⟨h2, rfl⟩, read_iff.2 ⟨h3, rfl⟩, read_iff.2 ⟨h4, rfl⟩]
    rfl
  · rw [e]
    simp only [List.mem_append, List.mem_cons]
    have q1 := itoa_10 t.ln
    have q2 := itoa_10 t.lw
    have q3 := itoa_10 t.rd
    have q4 := itoa_10 t.rw
    simp [q1, q2, q3, q4]
theorem tool_back {l : List UInt8} {t : To} (h : toolF l = some t) : l ++ [10] = fmtO t := by
  by_cases h4 : (splitL 32 l).length = 4
  · obtain ⟨a, b, c, d, hs⟩ : ∃ a b c d, splitL 32 l = [a, b, c, d] := by
      match hL : splitL 32 l, h4 with
      | [a, b, c, d], _ => exact ⟨a, b, c, d, rfl⟩
    rw [tool_of hs] at h
    obtain ⟨x, hx, h⟩ := Option.bind_eq_some_iff.1 h
    obtain ⟨y, hy, h⟩ := Option.bind_eq_some_iff.1 h
    obtain ⟨z, hz, h⟩ := Option.bind_eq_some_iff.1 h
    obtain ⟨u, hu, h⟩ := Option.map_eq_some_iff.1 h
    subst h
    rw [split4 hs, ← (read_iff.1 hx).2, ← (read_iff.1 hy).2, ← (read_iff.1 hz).2, ← (read_iff.1 hu).2]
    unfold fmtO
    simp
  · rw [tool_no h4] at h
    cases h
theorem good_in {t : To} (h : toGood t = true) : inC t.ln ∧ inC t.lw ∧ inC t.rd ∧ inC t.rw := by
  obtain ⟨h1, h2, h3, h4, _⟩ := (toGood_iff t).1 h
  exact ⟨h1, h2, h3, h4⟩
theorem fmtO_ne (t : To) : ∃ l, fmtO t = l ++ [10] := ⟨_, rfl⟩
theorem parse_fmtA : ∀ (l acc : List To), (∀ t ∈ l, toGood t = true) → validT (acc ++ l) = true → parseA acc (fmtOs l) = (acc ++ l, ((acc ++ l).length : Int), 0)
  | [], acc, _, hv => by
    have : fmtOs [] = [] := rfl
    rw [this, parseA_nil, List.append_nil] at *
    rw [if_pos hv]
  | t :: l, acc, hg, hv => by
    obtain ⟨b, hb⟩ := fmtO_ne t
    obtain ⟨h1, h2⟩ := tool_fmt (good_in (hg t List.mem_cons_self)) hb.symm
    have hc : cutL 10 (fmtOs (t :: l)) = some (b, fmtOs l) := by
      have : fmtOs (t :: l) = b ++ 10 :: fmtOs l := by
        unfold fmtOs
        rw [List.flatMap_cons, hb]
        simp
      rw [this]
      exact cutL_app _ h2
    rw [parseA_tool hc h1]
    have := parse_fmtA l (acc ++ [t]) (fun x hx => hg x (List.mem_cons_of_mem _ hx)) (by simpa using hv)
    rw [this]
    simp
theorem parse_fmt {l : List To} (h : validT l = true) : parseT (fmtOs l) = (l, (l.length : Int), 0) := by
  have := parse_fmtA l [] (validT_all h).2 (by simpa using h)
  simpa [parseT] using this
theorem parse_backA : ∀ (n : Nat) (acc : List To) (l : List UInt8), l.length ≤ n → (parseA acc l).2.2 = 0 → fmtOs (parseA acc l).1 = fmtOs acc ++ l ∧ validT (parseA acc l).1 = true ∧ (parseA acc l).2.1 = (parseA acc l).1.length := by
  intro n
  induction n with
  | zero =>
    intro acc l hl h
    obtain rfl := List.length_eq_zero_iff.1 (Nat.le_zero.1 hl)
    rw [parseA_nil] at h ⊢
    split at h
    · rename_i hv
      rw [if_pos hv]
      exact ⟨by simp, hv, rfl⟩
    · simp at h
  | succ n ih =>
    intro acc l hl h
    by_cases h0 : l = []
    · subst h0
      rw [parseA_nil] at h ⊢
      split at h
      · rename_i hv
        rw [if_pos hv]
        exact ⟨by simp, hv, rfl⟩
      · simp at h
    · cases hc : cutL 10 l with
      | none => rw [parseA_none h0 hc] at h; simp at h
      | some p =>
        obtain ⟨a, r⟩ := p
        cases ht : toolF a with
        | none => rw [parseA_bad hc ht] at h; simp at h
        | some t =>
          rw [parseA_tool hc ht] at h ⊢
          have := cut_less hc
          obtain ⟨h1, h2, h3⟩ := ih (acc ++ [t]) r (by omega) h
          refine ⟨?_, h2, h3⟩
          rw [h1, fmtOs_snoc, ← tool_back ht, (cutL_some hc).1]
          simp
theorem parse_back {l : List UInt8} (h : (parseT l).2.2 = 0) : fmtOs (parseT l).1 = l ∧ validT (parseT l).1 = true ∧ (parseT l).2.1 = (parseT l).1.length := by
  have := parse_backA l.length [] l (Nat.le_refl _) h
  simpa [parseT, fmtOs] using this
theorem parse_len : ∀ (n : Nat) (acc : List To) (l : List UInt8), l.length ≤ n → (parseA acc l).1.length ≤ 32 := by
  intro n
  induction n with
  | zero =>
    intro acc l hl
    obtain rfl := List.length_eq_zero_iff.1 (Nat.le_zero.1 hl)
    rw [parseA_nil]
    split
    · rename_i hv; exact (validT_all hv).1
    · simp
  | succ n ih =>
    intro acc l hl
    by_cases h0 : l = []
    · subst h0
      rw [parseA_nil]
      split
      · rename_i hv; exact (validT_all hv).1
      · simp
    · cases hc : cutL 10 l with
      | none => rw [parseA_none h0 hc]; simp
      | some p =>
        obtain ⟨a, r⟩ := p
        have := cut_less hc
        cases ht : toolF a with
        | none => rw [parseA_bad hc ht]; simp
        | some t => rw [parseA_tool hc ht]; exact ih _ r (by omega)
end Go.Proofs.YtlpmbjgimllmgaaDoor
