/-
  Lists of events and their texts in plain words: which lists are valid, the text of a list, the list of a text. No program's function is named in it. No condition.
-/
import Derived.Test.YtkafmpgihhnhdaaDoorBytes
namespace Go.Proofs.YtkafmpgihhnhdaaDoor
open Go Go.RowKit
set_option linter.unusedVariables false

structure Ev where
  cy : Int
  kd : Int
  n : Int
deriving DecidableEq
def evC (e : Ev) : List Value := [.int .i64 e.cy, .int .i64 e.kd, .int .i64 e.n]
def evsC (l : List Ev) : List Value := l.flatMap evC
theorem evsC_len (l : List Ev) : (evsC l).length = l.length * 3 := by
  induction l with
  | nil => rfl
  | cons t l ih => rw [evsC, List.flatMap_cons, List.length_append, ← evsC, ih]; show 3 + _ = (l.length + 1) * 3; omega
theorem evsC_snoc (l : List Ev) (t : Ev) : evsC (l ++ [t]) = evsC l ++ evC t := by simp [evsC]
theorem evsC_at : ∀ (l : List Ev) (i j : Nat) (t : Ev), l[i]? = some t → j < 3 → (evsC l)[i * 3 + j]? = (evC t)[j]?
  | [], i, j, t, h, _ => by simp at h
  | x :: l, 0, j, t, h, hj => by
    simp at h
    subst h
    rw [evsC, List.flatMap_cons, List.getElem?_append_left (by show _ < 3; omega)]
    simp
  | x :: l, i + 1, j, t, h, hj => by
    simp only [List.getElem?_cons_succ] at h
    rw [evsC, List.flatMap_cons, List.getElem?_append_right (by show 3 ≤ _; omega), ← evsC]
    show (evsC l)[(i + 1) * 3 + j - 3]? = _
    rw [show (i + 1) * 3 + j - 3 = i * 3 + j by omega]
    exact evsC_at l i j t h hj
theorem evsC_one (l : List Ev) : ∀ u ∈ evsC l, u.oneCell' = true := by
  intro u hu
  obtain ⟨t, _, hu⟩ := List.mem_flatMap.1 hu
  unfold evC at hu
  simp only [List.mem_cons, List.not_mem_nil, or_false] at hu
  rcases hu with rfl | rfl | rfl <;> rfl

/-! ### Valid lists -/
def evGood (last : Int) (e : Ev) : Bool := decide (last ≤ e.cy ∧ e.cy ≤ 1073741824 ∧ 1 ≤ e.kd ∧ e.kd ≤ 13 ∧ -1073741824 ≤ e.n ∧ e.n ≤ 1073741824)
def validG : List Ev → Int → Bool
  | [], _ => true
  | e :: l, last => evGood last e && validG l e.cy
def validE (l : List Ev) : Bool := decide (l.length ≤ 2000) && validG l 0
theorem validG_drop {l : List Ev} {i : Nat} {e : Ev} (h : l[i]? = some e) (last : Int) : validG (l.drop i) last = (evGood last e && validG (l.drop (i + 1)) e.cy) := by
  obtain ⟨hl, rfl⟩ := List.getElem?_eq_some_iff.1 h
  rw [List.drop_eq_getElem_cons hl, validG]
theorem validG_end {l : List Ev} {i : Nat} (h : l.length ≤ i) (last : Int) : validG (l.drop i) last = true := by rw [List.drop_eq_nil_of_le h, validG]
theorem validG_all : ∀ {l : List Ev} {last : Int}, validG l last = true → 0 ≤ last → ∀ e ∈ l, 0 ≤ e.cy ∧ e.cy ≤ 1073741824 ∧ 1 ≤ e.kd ∧ e.kd ≤ 13 ∧ -1073741824 ≤ e.n ∧ e.n ≤ 1073741824
  | [], _, _, _, e, he => by simp at he
  | x :: l, last, h, h0, e, he => by
    rw [validG, Bool.and_eq_true] at h
    have hx : _ ∧ _ := of_decide_eq_true h.1
    rcases List.mem_cons.1 he with rfl | he
    · omega
    · exact validG_all h.2 (by omega) e he
theorem validE_all {l : List Ev} (h : validE l = true) : ∀ e ∈ l, 0 ≤ e.cy ∧ e.cy ≤ 1073741824 ∧ 1 ≤ e.kd ∧ e.kd ≤ 13 ∧ -1073741824 ≤ e.n ∧ e.n ≤ 1073741824 := by
  unfold validE at h
  rw [Bool.and_eq_true] at h
  exact validG_all h.2 (by omega)
/-- An event behind a valid list whose last cycle is c. -/
theorem validG_snoc : ∀ {l : List Ev} {last : Int} {e : Ev}, validG l last = true → evGood ((l.getLast?.map Ev.cy).getD last) e = true → validG (l ++ [e]) last = true
  | [], last, e, _, h => by simpa [validG] using h
  | x :: l, last, e, h, he => by
    rw [validG, Bool.and_eq_true] at h
    rw [List.cons_append, validG, h.1, Bool.true_and]
    refine validG_snoc h.2 ?_
    rw [← he]
    congr 1
    cases l with
    | nil => rfl
    | cons y l =>
      rw [List.getLast?_cons_cons]
      obtain ⟨z, hz⟩ : ∃ z, (y :: l).getLast? = some z := ⟨_, List.getLast?_eq_some_getLast (by simp)⟩
      rw [hz]
      rfl

/-! ### Numbers and names -/
def negB (l : List UInt8) : Bool := l.head? == some 45
def digsF (l : List UInt8) : List UInt8 := if negB l = true then l.drop 1 else l
def formB (l : List UInt8) : Bool := decide (digsF l ≠ [] ∧ (digsF l).length ≤ 10 ∧ ((digsF l).head? = some 48 → l = [48]))
/-- The number that a word stands for. -/
def numF (l : List UInt8) : Option Int := if formB l = true then (scanD (digsF l) 0).map fun n => if negB l = true then -n else n else none
def evNames : List (List UInt8) := [[102, 101, 101, 100], [114, 97, 112, 105, 100], [104, 111, 108, 100], [114, 101, 115, 117, 109, 101], [115, 105, 110, 103, 108, 101], [111, 112, 116, 105, 111, 110, 97, 108], [114, 101, 116, 114, 97, 99, 101], [115, 119, 105, 116, 99, 104], [115, 116, 111, 112], [112, 111, 119, 101, 114], [114, 101, 115, 101, 116], [112, 114, 111, 98, 101], [108, 97, 103]]
def nameL (i : Nat) : List UInt8 := evNames.getD i []
/-- The last kind, of the first k, that a word names; 0: none. -/
def kindN : Nat → List UInt8 → Int
  | 0, _ => 0
  | k + 1, l => if l = nameL k then (k : Int) + 1 else kindN k l
theorem kindN_bd : ∀ (k : Nat) (l : List UInt8), 0 ≤ kindN k l ∧ kindN k l ≤ k
  | 0, _ => by simp [kindN]
  | k + 1, l => by
    have := kindN_bd k l
    rw [kindN]
    split <;> omega
theorem kindN_name : ∀ {k : Nat} {l : List UInt8}, 0 < kindN k l → nameL (kindN k l - 1).toNat = l
  | 0, _, h => by simp [kindN] at h
  | k + 1, l, h => by
    rw [kindN] at h ⊢
    split
    · rename_i e
      rw [e]
      congr 1
      omega
    · rename_i e
      rw [if_neg e] at h
      exact kindN_name h
theorem kindN_of (i : Nat) (h : i < 13) : kindN 13 (nameL i) = (i : Int) + 1 := by
  have : ∀ j : Fin 13, kindN 13 (nameL j.val) = (j.val : Int) + 1 := by decide +kernel
  exact this ⟨i, h⟩
theorem name_mem (i : Nat) (h : i < 13) : ∀ c ∈ nameL i, c ≠ 32 ∧ c ≠ 10 := by
  have : ∀ j : Fin 13, ∀ c ∈ nameL j.val, c ≠ 32 ∧ c ≠ 10 := by decide +kernel
  exact this ⟨i, h⟩
theorem name_len (i : Nat) : (nameL i).length ≤ 8 := by
  by_cases h : i < 13
  · have : ∀ j : Fin 13, (nameL j.val).length ≤ 8 := by decide +kernel
    exact this ⟨i, h⟩
  · have : evNames.length = 13 := rfl
    unfold nameL
    rw [List.getD_eq_getElem?_getD, List.getElem?_eq_none (by omega)]
    simp
/-- The event of a line without its line feed. -/
def lineF (l : List UInt8) : Option Ev := match splitL 32 l with
  | [a, b, c] => if 0 < kindN 13 b then (numF a).bind fun x => (numF c).map fun y => ⟨x, kindN 13 b, y⟩ else none
  | _ => none
def linesG : Nat → List UInt8 → Option (List Ev)
  | 0, _ => none
  | f + 1, l => if l = [] then some [] else match cutL 10 l with
    | none => none
    | some (s, r) => (lineF s).bind fun e => (linesG f r).map (e :: ·)
/-- The events of a text. -/
def linesF (l : List UInt8) : Option (List Ev) := linesG (l.length + 1) l
theorem cut_less {c : UInt8} {l a b : List UInt8} (h : cutL c l = some (a, b)) : b.length < l.length := by
  obtain ⟨e, _⟩ := cutL_some h
  rw [e]
  simp
  omega
theorem linesG_more : ∀ (f g : Nat) (l : List UInt8), l.length < f → l.length < g → linesG f l = linesG g l
  | 0, _, _, h, _ => by omega
  | _, 0, _, _, h => by omega
  | f + 1, g + 1, l, hf, hg => by
    rw [linesG, linesG]
    split
    · rfl
    · split
      · rfl
      · rename_i s r hc
        have := cut_less hc
        rw [linesG_more f g r (by omega) (by omega)]
theorem linesF_nil : linesF [] = some [] := rfl
theorem linesF_cut {l s r : List UInt8} (h : cutL 10 l = some (s, r)) : linesF l = (lineF s).bind fun e => (linesF r).map (e :: ·) := by
  have hl := cut_less h
  unfold linesF
  rw [linesG, if_neg (by rintro rfl; simp [cutL] at h), h]
  simp only
  rw [linesG_more _ (r.length + 1) r (by omega) (by omega)]
theorem linesF_none {l : List UInt8} (h : cutL 10 l = none) (hl : l ≠ []) : linesF l = none := by
  unfold linesF
  rw [linesG, if_neg hl, h]
/-- What Parse returns: the list and the error. -/
def parseR (l : List UInt8) : List Ev × Int := match linesF l with
  | none => ([], 2)
  | some E => if 2000 < E.length then ([], 10) else if validE E = true then (E, 0) else ([], 3)
/-- The text of an event. -/
def fmtE (e : Ev) : List UInt8 := Lib.itoa e.cy ++ [32] ++ nameL (e.kd - 1).toNat ++ [32] ++ Lib.itoa e.n ++ [10]
def fmtL (l : List Ev) : List UInt8 := l.flatMap fmtE

/-! ### Back and forth -/
theorem dgt_not {c : UInt8} (h : dgt c = true) : c ≠ 45 := by
  rintro rfl
  exact absurd (dgt_bd h) (by decide)
theorem num_itoa {z : Int} (h : z.natAbs < 10 ^ 10) : numF (Lib.itoa z) = some z := by
  unfold Lib.itoa
  split
  · rename_i hz
    have hd := dec_dgt z.natAbs
    have hl := dec_most 9 z.natAbs h
    obtain ⟨c, r, e, hc⟩ := dec_head (n := z.natAbs) (by omega)
    have hv := dec_val z.natAbs
    have hn : negB (45 :: Lib.decDigits z.natAbs) = true := rfl
    have hg : digsF (45 :: Lib.decDigits z.natAbs) = Lib.decDigits z.natAbs := by unfold digsF; rw [if_pos hn]; rfl
    have hf : formB (45 :: Lib.decDigits z.natAbs) = true := by
      unfold formB
      rw [hg]
      refine decide_eq_true ⟨by rw [e]; simp, hl, fun h48 => ?_⟩
      rw [e] at h48
      exact absurd (by simpa using h48) hc
    unfold numF
    rw [if_pos hf, hg, scanD_all _ hd, hv, hn]
    simp
    omega
  · rename_i hz
    have hd := dec_dgt z.toNat
    have hl := dec_most 9 z.toNat (by omega)
    have hv := dec_val z.toNat
    have h1 := dec_len z.toNat
    have hn : negB (Lib.decDigits z.toNat) = false := by
      unfold negB
      cases e : Lib.decDigits z.toNat with
      | nil => rfl
      | cons c r =>
        have := dgt_not (hd c (by rw [e]; simp))
        simpa using this
    have hg : digsF (Lib.decDigits z.toNat) = Lib.decDigits z.toNat := by unfold digsF; rw [hn]; rfl
    have hf : formB (Lib.decDigits z.toNat) = true := by
      unfold formB
      rw [hg]
      refine decide_eq_true ⟨fun e => by rw [e] at h1; simp at h1, hl, fun h48 => ?_⟩
      by_cases h0 : z.toNat = 0
      · rw [h0, Lib.decDigits, dif_pos (by omega)]
        rfl
      · obtain ⟨c, r, e, hc⟩ := dec_head (n := z.toNat) (by omega)
        rw [e] at h48
        exact absurd (by simpa using h48) hc
    unfold numF
    rw [if_pos hf, hg, scanD_all _ hd, hv, hn]
    simp
    omega
theorem num_back {l : List UInt8} {z : Int} (h : numF l = some z) : Lib.itoa z = l := by
  unfold numF at h
  split at h
  case isFalse => cases h
  case isTrue hf =>
  have hf : digsF l ≠ [] ∧ (digsF l).length ≤ 10 ∧ ((digsF l).head? = some 48 → l = [48]) := of_decide_eq_true hf
  obtain ⟨f1, f2, f3⟩ := hf
  rw [Option.map_eq_some_iff] at h
  obtain ⟨v, hv, e⟩ := h
  obtain ⟨hd, rfl⟩ := scanD_some hv
  have hb := dec_back (digsF l) hd f1 (fun h48 => by
    have := f3 h48
    subst this
    rfl)
  have hlt := (valL_lt (digsF l) (n := 0) (k := 0) (by omega) (by decide) hd).1
  cases hn : negB l
  · have hg : digsF l = l := by unfold digsF; rw [hn]; rfl
    rw [hn] at e
    simp only [Bool.false_eq_true, if_false] at e
    subst e
    unfold Lib.itoa
    rw [if_neg (by omega), hb, hg]
  · obtain ⟨r, rfl⟩ : ∃ r, l = 45 :: r := by
      unfold negB at hn
      cases l with
      | nil => cases hn
      | cons c r => simp at hn; exact ⟨r, by rw [hn]⟩
    have hg : digsF (45 :: r) = r := by unfold digsF; rw [hn]; rfl
    rw [hn] at e
    simp only [if_true] at e
    subst e
    rw [hg] at f1 f2 f3 hd hb hlt
    rw [hg]
    obtain ⟨c, r', rfl⟩ : ∃ c r', r = c :: r' := by
      cases r with
      | nil => exact absurd rfl f1
      | cons c r' => exact ⟨c, r', rfl⟩
    have hc := dgt_bd (hd c List.mem_cons_self)
    have hc48 : c ≠ 48 := by
      rintro rfl
      have := f3 rfl
      simp at this
    have hc48' : c.toNat ≠ 48 := fun e => hc48 (UInt8.toNat_inj.1 e)
    have h1 : 1 ≤ valL (c :: r') 0 := by
      rw [valL]
      exact valL_ge r' (by omega) fun d hd' => hd d (List.mem_cons_of_mem _ hd')
    unfold Lib.itoa
    rw [if_pos (by omega), show (-valL (c :: r') 0).natAbs = (valL (c :: r') 0).toNat by omega, hb]
def evOK (e : Ev) : Prop := e.cy.natAbs < 10 ^ 10 ∧ e.n.natAbs < 10 ^ 10 ∧ 1 ≤ e.kd ∧ e.kd ≤ 13
theorem itoa_32 (z : Int) : (32 : UInt8) ∉ Lib.itoa z := itoa_no (by decide) (by decide)
theorem itoa_10 (z : Int) : (10 : UInt8) ∉ Lib.itoa z := itoa_no (by decide) (by decide)
def bodyE (e : Ev) : List UInt8 := Lib.itoa e.cy ++ 32 :: (nameL (e.kd - 1).toNat ++ 32 :: Lib.itoa e.n)
theorem fmt_body (e : Ev) (r : List UInt8) : fmtE e ++ r = bodyE e ++ 10 :: r := by
  unfold fmtE bodyE
  simp
theorem body_line {e : Ev} (h : evOK e) : lineF (bodyE e) = some e := by
  obtain ⟨h1, h2, h3, h4⟩ := h
  have hk : (e.kd - 1).toNat < 13 := by omega
  have n32 : (32 : UInt8) ∉ nameL (e.kd - 1).toNat := fun hm => (name_mem _ hk _ hm).1 rfl
  have hs : splitL 32 (bodyE e) = [Lib.itoa e.cy, nameL (e.kd - 1).toNat, Lib.itoa e.n] := by
    unfold bodyE
    rw [splitL_app _ (itoa_32 _), splitL_app _ n32, splitL_none (itoa_32 _)]
  unfold lineF
  rw [hs]
  simp only
  rw [kindN_of _ hk, if_pos (by omega), num_itoa h1, num_itoa h2]
  simp only [Option.bind_some, Option.map_some]
  rw [show (((e.kd - 1).toNat : Nat) : Int) + 1 = e.kd by omega]
theorem body_10 {e : Ev} (h : evOK e) : (10 : UInt8) ∉ bodyE e := by
  have hk : (e.kd - 1).toNat < 13 := by have := h.2.2; omega
  intro hm
  unfold bodyE at hm
  rcases List.mem_append.1 hm with hm | hm
  · exact itoa_10 _ hm
  · rcases List.mem_cons.1 hm with hm | hm
    · exact absurd hm (by decide)
    · rcases List.mem_append.1 hm with hm | hm
      · exact (name_mem _ hk _ hm).2 rfl
      · rcases List.mem_cons.1 hm with hm | hm
        · exact absurd hm (by decide)
        · exact itoa_10 _ hm
/-- The text of a list is read back as the list. -/
theorem lines_fmt : ∀ {l : List Ev}, (∀ e ∈ l, evOK e) → linesF (fmtL l) = some l
  | [], _ => rfl
  | e :: l, h => by
    have he := h e List.mem_cons_self
    have hc : cutL 10 (fmtL (e :: l)) = some (bodyE e, fmtL l) := by
      rw [fmtL, List.flatMap_cons, ← fmtL, fmt_body]
      exact cutL_app _ (body_10 he)
    rw [linesF_cut hc, body_line he, lines_fmt fun x hx => h x (List.mem_cons_of_mem _ hx)]
    rfl
theorem line_back {l : List UInt8} {e : Ev} (h : lineF l = some e) : bodyE e = l := by
  unfold lineF at h
  split at h
  case h_2 => cases h
  case h_1 a b c hs =>
  split at h
  case isFalse => cases h
  case isTrue hk =>
  rw [Option.bind_eq_some_iff] at h
  obtain ⟨x, hx, h⟩ := h
  rw [Option.map_eq_some_iff] at h
  obtain ⟨y, hy, rfl⟩ := h
  obtain ⟨_, h1⟩ := splitL_cons hs
  rcases h1 with ⟨h1, _⟩ | ⟨r, e1, hr⟩
  · cases h1
  obtain ⟨_, h2⟩ := splitL_cons hr
  rcases h2 with ⟨h2, _⟩ | ⟨r2, e2, hr2⟩
  · cases h2
  obtain ⟨_, h3⟩ := splitL_cons hr2
  rcases h3 with ⟨_, e3⟩ | ⟨r3, e3, hr3⟩
  · unfold bodyE
    simp only
    rw [num_back hx, num_back hy, kindN_name hk, e1, e2, e3]
  · exact absurd hr3 (splitL_ne _ _)
/-- A text that is read is the text of what was read. -/
theorem lines_back : ∀ (n : Nat) {l : List UInt8} {E : List Ev}, l.length ≤ n → linesF l = some E → fmtL E = l
  | 0, l, E, hn, h => by
    obtain rfl : l = [] := List.length_eq_zero_iff.1 (by omega)
    rw [linesF_nil] at h
    injection h with h
    subst h
    rfl
  | n + 1, l, E, hn, h => by
    by_cases hl : l = []
    · subst hl
      rw [linesF_nil] at h
      injection h with h
      subst h
      rfl
    · cases hc : cutL 10 l with
      | none => rw [linesF_none hc hl] at h; cases h
      | some p =>
        obtain ⟨s, r⟩ := p
        have hlt := cut_less hc
        rw [linesF_cut hc, Option.bind_eq_some_iff] at h
        obtain ⟨e, he, h⟩ := h
        rw [Option.map_eq_some_iff] at h
        obtain ⟨E', hE, rfl⟩ := h
        rw [fmtL, List.flatMap_cons, ← fmtL, fmt_body, lines_back n (by omega) hE, line_back he]
        exact ((cutL_some hc).1).symm
theorem fmtE_len {e : Ev} (h : evOK e) : (fmtE e).length ≤ 33 := by
  have h1 := itoa_most (k := 9) h.1
  have h2 := itoa_most (k := 9) h.2.1
  have h3 := name_len (e.kd - 1).toNat
  unfold fmtE
  simp only [List.length_append, List.length_cons, List.length_nil]
  omega
theorem fmtL_len : ∀ {l : List Ev}, (∀ e ∈ l, evOK e) → (fmtL l).length ≤ 33 * l.length
  | [], _ => by simp [fmtL]
  | e :: l, h => by
    have h1 := fmtE_len (h e List.mem_cons_self)
    have h2 := fmtL_len fun x hx => h x (List.mem_cons_of_mem e hx)
    rw [fmtL, List.flatMap_cons, ← fmtL, List.length_append, List.length_cons]
    omega
theorem valid_ok {l : List Ev} (h : validE l = true) : ∀ e ∈ l, evOK e := fun e he => by
  have := validE_all h e he
  have e10 : (10 : Nat) ^ 10 = 10000000000 := by decide
  unfold evOK
  rw [e10]
  omega
theorem parse_fmt {l : List Ev} (h : validE l = true) : parseR (fmtL l) = (l, 0) := by
  unfold parseR
  rw [lines_fmt (valid_ok h)]
  simp only
  have : l.length ≤ 2000 := by
    unfold validE at h
    rw [Bool.and_eq_true] at h
    exact of_decide_eq_true h.1
  rw [if_neg (by omega), if_pos h]
theorem parse_back {l : List UInt8} (h : (parseR l).2 = 0) : fmtL (parseR l).1 = l ∧ validE (parseR l).1 = true := by
  unfold parseR at h ⊢
  cases hE : linesF l with
  | none => rw [hE] at h; simp at h
  | some E =>
    rw [hE] at h
    simp only at h ⊢
    by_cases h20 : 2000 < E.length
    · rw [if_pos h20] at h; simp at h
    · rw [if_neg h20] at h ⊢
      by_cases hv : validE E = true
      · rw [if_pos hv]
        exact ⟨lines_back _ (Nat.le_refl _) hE, hv⟩
      · rw [if_neg hv] at h; simp at h
theorem parse_err {l : List UInt8} (h : (parseR l).2 ≠ 0) : (parseR l).1 = [] := by
  unfold parseR at h ⊢
  cases hE : linesF l with
  | none => rfl
  | some E =>
    rw [hE] at h
    simp only at h ⊢
    by_cases h20 : 2000 < E.length
    · rw [if_pos h20]
    · rw [if_neg h20] at h ⊢
      by_cases hv : validE E = true
      · rw [if_pos hv] at h; simp at h
      · rw [if_neg hv]
end Go.Proofs.YtkafmpgihhnhdaaDoor
