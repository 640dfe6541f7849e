/-
  Strings as lists of bytes: where a byte stands, what lies between two of a kind; numbers in decimal, written and read. No program is named in it. No condition.
-/
import Derived.Test.YtefdjdipbnnoaaaGreatDoorBase
import Derived.Lib.Bytealg
import Derived.Lib.IndexLaws
import Derived.Lib.SplitLaws
import Derived.Lib.CutLaws
import Derived.Lib.ItoaNum
namespace Go.Proofs.YtefdjdipbnnoaaaGreatDoor
open Go Go.RowKit
set_option linter.unusedVariables false

/-- The bytes of a string. -/
def bl (s : ByteArray) : List UInt8 := s.data.toList
def mkB (l : List UInt8) : ByteArray := ⟨l.toArray⟩
theorem bl_mkB (l : List UInt8) : bl (mkB l) = l := by simp [bl, mkB]
theorem mkB_bl (s : ByteArray) : mkB (bl s) = s := by cases s; simp [bl, mkB]
theorem bl_len (s : ByteArray) : (bl s).length = s.size := Array.length_toList
theorem toList_bl (s : ByteArray) : s.toList = bl s := ByteArray.toList_eq s
theorem bl_extract (s : ByteArray) (a b : Nat) : bl (s.extract a b) = ((bl s).drop a).take (b - a) := by
  conv => lhs; rw [← mkB_bl s]
  unfold mkB
  rw [ByteArray.extract_mk]
  simp [bl]
theorem bl_append (a b : ByteArray) : bl (a ++ b) = bl a ++ bl b := by simp [bl, ByteArray.data_append]
theorem extract_mkB (s : ByteArray) (a b : Nat) : s.extract a b = mkB (((bl s).drop a).take (b - a)) := by rw [← bl_extract, mkB_bl]
/-- The byte at an offset. -/
def byt (s : ByteArray) (i : Nat) : Int := ((bl s).getD i 0).toNat
theorem byt_bd (s : ByteArray) (i : Nat) : 0 ≤ byt s i ∧ byt s i ≤ 255 := by
  unfold byt
  have := ((bl s).getD i 0).toNat_lt
  omega
theorem byt_at (s : ByteArray) (i : Nat) (h : i < s.size) : byt s i = ((s[i]'h).toNat : Int) := by
  unfold byt bl
  have h' : i < s.data.toList.length := by have := bl_len s; unfold bl at this; omega
  rw [List.getD_eq_getElem?_getD, List.getElem?_eq_getElem h']
  rfl
theorem drop_byt (s : ByteArray) (i : Nat) (h : i < s.size) : ∃ c : UInt8, (bl s).drop i = c :: (bl s).drop (i + 1) ∧ byt s i = c.toNat := by
  have h' : i < (bl s).length := by rw [bl_len]; exact h
  refine ⟨(bl s)[i], List.drop_eq_getElem_cons h', ?_⟩
  unfold byt
  rw [List.getD_eq_getElem?_getD, List.getElem?_eq_getElem h']
  rfl

theorem mkB_size (l : List UInt8) : (mkB l).size = l.length := by rw [← bl_len, bl_mkB]
theorem mkB_app (a b : List UInt8) : mkB a ++ mkB b = mkB (a ++ b) := by rw [← mkB_bl (mkB a ++ mkB b), bl_append, bl_mkB, bl_mkB]
theorem bl_inj {a b : ByteArray} (h : bl a = bl b) : a = b := by rw [← mkB_bl a, ← mkB_bl b, h]

/-! ### Pieces -/
/-- What stands before the first c, and behind it. -/
def cutL (c : UInt8) : List UInt8 → Option (List UInt8 × List UInt8)
  | [] => none
  | x :: l => if x = c then some ([], l) else (cutL c l).map fun p => (x :: p.1, p.2)
/-- The pieces between the c's. -/
def splitL (c : UInt8) : List UInt8 → List (List UInt8)
  | [] => [[]]
  | x :: l => if x = c then [] :: splitL c l else match splitL c l with
    | [] => [[x]]
    | p :: ps => (x :: p) :: ps
theorem splitL_ne (c : UInt8) : ∀ l : List UInt8, splitL c l ≠ []
  | [] => by simp [splitL]
  | x :: l => by
    rw [splitL]
    split
    · simp
    · split <;> simp
theorem splitL_hit (c : UInt8) (l : List UInt8) : splitL c (c :: l) = [] :: splitL c l := by rw [splitL, if_pos rfl]
theorem splitL_step {c x : UInt8} (h : x ≠ c) {l p : List UInt8} {ps : List (List UInt8)} (hl : splitL c l = p :: ps) : splitL c (x :: l) = (x :: p) :: ps := by rw [splitL, if_neg h, hl]
theorem splitL_none {c : UInt8} : ∀ {l : List UInt8}, c ∉ l → splitL c l = [l]
  | [], _ => rfl
  | x :: l, h => by
    have h1 : x ≠ c := fun e => h (by simp [e])
    exact splitL_step h1 (splitL_none fun h' => h (List.mem_cons_of_mem _ h'))
theorem splitL_app {c : UInt8} : ∀ {a : List UInt8} (b : List UInt8), c ∉ a → splitL c (a ++ c :: b) = a :: splitL c b
  | [], b, _ => splitL_hit c b
  | x :: a, b, h => by
    have h1 : x ≠ c := fun e => h (by simp [e])
    exact splitL_step h1 (splitL_app b fun h' => h (List.mem_cons_of_mem _ h'))
/-- The first piece, and what lies behind it. -/
theorem splitL_cons {c : UInt8} : ∀ {l p : List UInt8} {ps : List (List UInt8)}, splitL c l = p :: ps → c ∉ p ∧ ((ps = [] ∧ l = p) ∨ ∃ r, l = p ++ c :: r ∧ splitL c r = ps)
  | [], p, ps, h => by
    rw [splitL] at h
    injection h with h1 h2
    subst h1 h2
    exact ⟨by simp, .inl ⟨rfl, rfl⟩⟩
  | x :: l, p, ps, h => by
    by_cases hx : x = c
    · subst hx
      rw [splitL_hit] at h
      injection h with h1 h2
      subst h1 h2
      exact ⟨by simp, .inr ⟨l, rfl, rfl⟩⟩
    · obtain ⟨q, qs, hq⟩ : ∃ q qs, splitL c l = q :: qs := by
        cases hs : splitL c l with
        | nil => exact absurd hs (splitL_ne c l)
        | cons q qs => exact ⟨q, qs, rfl⟩
      rw [splitL_step hx hq] at h
      injection h with h1 h2
      subst h1 h2
      obtain ⟨a1, a2⟩ := splitL_cons hq
      refine ⟨fun hm => ?_, ?_⟩
      · rcases List.mem_cons.1 hm with e | hm
        · exact hx e.symm
        · exact a1 hm
      · rcases a2 with ⟨e1, e2⟩ | ⟨r, e1, e2⟩
        · exact .inl ⟨e1, by rw [e2]⟩
        · exact .inr ⟨r, by rw [e1]; rfl, e2⟩
theorem splitL_len (c : UInt8) : ∀ l : List UInt8, (splitL c l).length ≤ l.length + 1
  | [] => by simp [splitL]
  | x :: l => by
    have := splitL_len c l
    rw [splitL]
    split
    · simp; omega
    · split
      · simp
      · rename_i e
        rw [e] at this
        simp at this ⊢
        omega
theorem cutL_none {c : UInt8} : ∀ {l : List UInt8}, cutL c l = none ↔ c ∉ l
  | [] => by simp [cutL]
  | x :: l => by
    rw [cutL]
    by_cases h : x = c
    · simp [h]
    · rw [if_neg h, Option.map_eq_none_iff, cutL_none]
      have h' : ¬ c = x := fun e => h e.symm
      simp [h']
theorem cutL_app {c : UInt8} : ∀ {a : List UInt8} (b : List UInt8), c ∉ a → cutL c (a ++ c :: b) = some (a, b)
  | [], b, _ => by rw [List.nil_append, cutL, if_pos rfl]
  | x :: a, b, h => by
    have h1 : x ≠ c := fun e => h (by simp [e])
    rw [List.cons_append, cutL, if_neg h1, cutL_app b fun h' => h (List.mem_cons_of_mem _ h')]
    rfl
theorem cutL_some {c : UInt8} : ∀ {l a b : List UInt8}, cutL c l = some (a, b) → l = a ++ c :: b ∧ c ∉ a
  | [], a, b, h => by simp [cutL] at h
  | x :: l, a, b, h => by
    rw [cutL] at h
    by_cases hx : x = c
    · rw [if_pos hx] at h
      injection h with h
      injection h with h1 h2
      subst h1 h2 hx
      exact ⟨rfl, by simp⟩
    · rw [if_neg hx, Option.map_eq_some_iff] at h
      obtain ⟨⟨a', b'⟩, h, e⟩ := h
      injection e with e1 e2
      subst e1 e2
      obtain ⟨h1, h2⟩ := cutL_some h
      exact ⟨by rw [h1]; rfl, fun hm => by
        rcases List.mem_cons.1 hm with e | hm
        · exact hx e.symm
        · exact h2 hm⟩
theorem index_hit1 (c : UInt8) (l : List UInt8) : Lib.index (c :: l) [c] = 0 := by rw [Lib.index]; simp [List.isPrefixOf]
theorem index_ne1 {b c : UInt8} (h : b ≠ c) (l : List UInt8) : Lib.index (b :: l) [c] = if Lib.index l [c] = -1 then -1 else Lib.index l [c] + 1 := by
  have hp : ([c] : List UInt8).isPrefixOf (b :: l) = false := by simp [List.isPrefixOf, Ne.symm h]
  rw [Lib.index, hp]
  simp
theorem index_nil1 (c : UInt8) : Lib.index [] [c] = -1 := by simp [Lib.index]
/-- strings.Cut at one byte. -/
theorem cut_one (c : UInt8) : ∀ l : List UInt8, Lib.cut l [c] = match cutL c l with
    | some p => (p.1, p.2, true)
    | none => (l, [], false)
  | [] => by
    unfold Lib.cut
    rw [index_nil1]
    rfl
  | x :: l => by
    have ih := cut_one c l
    have hge := Lib.index_ge l [c]
    unfold Lib.cut at ih ⊢
    by_cases h : x = c
    · subst h
      rw [index_hit1, cutL, if_pos rfl]
      simp
    · rw [index_ne1 h, cutL, if_neg h]
      by_cases hi : Lib.index l [c] = -1
      · rw [if_pos hi, if_neg (by omega)]
        rw [hi, if_neg (by omega)] at ih
        cases hc : cutL c l with
        | none => rfl
        | some p => rw [hc] at ih; simp at ih
      · rw [if_neg hi, if_pos (by omega)]
        rw [if_pos (by omega)] at ih
        cases hc : cutL c l with
        | none => rw [hc] at ih; simp at ih
        | some p =>
          rw [hc] at ih
          simp only [Prod.mk.injEq, and_true] at ih
          obtain ⟨i1, i2⟩ := ih
          have e : (Lib.index l [c] + 1).toNat = (Lib.index l [c]).toNat + 1 := by omega
          simp only [Option.map_some, e]
          rw [List.take_succ_cons, i1]
          refine Prod.ext rfl (Prod.ext ?_ rfl)
          show List.drop ((Lib.index l [c]).toNat + 1 + 1) (x :: l) = p.2
          rw [List.drop_succ_cons]
          exact i2
theorem splitK_one (c : UInt8) : ∀ l : List UInt8, Lib.splitK [c] 0 (Lib.count l [c]) l = splitL c l
  | [] => by rw [Lib.count_miss (index_nil1 c)]; rfl
  | x :: l => by
    have ih := splitK_one c l
    have hge := Lib.index_ge l [c]
    by_cases h : x = c
    · subst h
      rw [Lib.count_cons_eq, Nat.add_comm, Lib.splitK, index_hit1, splitL_hit, ← ih]
      rfl
    · rw [Lib.count_cons_ne _ _ _ h]
      cases hk : Lib.count l [c] with
      | zero =>
        rw [hk] at ih
        rw [Lib.splitK] at ih ⊢
        exact (splitL_step h ih.symm).symm
      | succ k =>
        rw [hk] at ih
        have hi : Lib.index l [c] ≠ -1 := fun e => by rw [Lib.count_miss e] at hk; omega
        rw [Lib.splitK, if_neg (by simpa using hi)] at ih
        rw [Lib.splitK, index_ne1 h, if_neg hi, if_neg (by simp; omega)]
        have e : (Lib.index l [c] + 1).toNat = (Lib.index l [c]).toNat + 1 := by omega
        rw [e, splitL_step h ih.symm]
        simp only [Nat.add_zero, List.take_succ_cons]
        rfl
/-- strings.Split at one byte. -/
theorem splitB_one (c : UInt8) (s : ByteArray) : Lib.splitB ⟨#[c]⟩ 0 (Lib.countB s ⟨#[c]⟩) s = (splitL c (bl s)).map mkB := by
  have h := Lib.splitB_data ⟨#[c]⟩ 0 (Lib.countB s ⟨#[c]⟩) s
  have h2 := splitK_one c (bl s)
  have h3 : Lib.countB s ⟨#[c]⟩ = Lib.count (bl s) [c] := rfl
  rw [h3] at h ⊢
  rw [show (⟨#[c]⟩ : ByteArray).data.toList = [c] from rfl, show s.data.toList = bl s from rfl, h2] at h
  rw [← h, List.map_map]
  conv => lhs; rw [← List.map_id (Lib.splitB _ _ _ _)]
  exact List.map_congr_left fun b _ => (mkB_bl b).symm

/-! ### Numbers -/
def digB (c : Int) : Bool := decide (48 ≤ c ∧ c ≤ 57)
def dgt (c : UInt8) : Bool := digB c.toNat
theorem dgt_bd {c : UInt8} (h : dgt c = true) : 48 ≤ c.toNat ∧ c.toNat ≤ 57 := by
  unfold dgt digB at h
  have := of_decide_eq_true h
  omega
def valL : List UInt8 → Int → Int
  | [], n => n
  | c :: l, n => valL l (10 * n + ((c.toNat : Int) - 48))
theorem valL_append : ∀ (l r : List UInt8) (n : Int), valL (l ++ r) n = valL r (valL l n)
  | [], r, n => rfl
  | c :: l, r, n => by rw [List.cons_append, valL, valL]; exact valL_append l r _
/-- The digits of a list are read; none: there is another byte. -/
def scanD : List UInt8 → Int → Option Int
  | [], n => some n
  | c :: l, n => if dgt c = true then scanD l (10 * n + ((c.toNat : Int) - 48)) else none
theorem scanD_all : ∀ {l : List UInt8} (n : Int), (∀ c ∈ l, dgt c = true) → scanD l n = some (valL l n)
  | [], n, _ => rfl
  | c :: l, n, h => by rw [scanD, if_pos (h c List.mem_cons_self), valL]; exact scanD_all _ fun d hd => h d (List.mem_cons_of_mem _ hd)
theorem scanD_some : ∀ {l : List UInt8} {n v : Int}, scanD l n = some v → (∀ c ∈ l, dgt c = true) ∧ v = valL l n
  | [], n, v, h => by rw [scanD] at h; injection h with h; exact ⟨by simp, h.symm⟩
  | c :: l, n, v, h => by
    rw [scanD] at h
    by_cases hc : dgt c = true
    · rw [if_pos hc] at h
      obtain ⟨h1, h2⟩ := scanD_some h
      exact ⟨fun d hd => by
        rcases List.mem_cons.1 hd with rfl | hd
        · exact hc
        · exact h1 d hd, h2⟩
    · rw [if_neg hc] at h; cases h
theorem scanD_drop {s : ByteArray} {i : Nat} {n : Int} (h : i < s.size) : scanD ((bl s).drop i) n = if digB (byt s i) = true then scanD ((bl s).drop (i + 1)) (10 * n + (byt s i - 48)) else none := by
  obtain ⟨c, e1, e2⟩ := drop_byt s i h
  rw [e1, scanD, e2]
  rfl
theorem scanD_end {s : ByteArray} {i : Nat} {n : Int} (h : s.size ≤ i) : scanD ((bl s).drop i) n = some n := by
  rw [List.drop_eq_nil_of_le (by rw [bl_len]; exact h), scanD]

/-! ### The decimal numeral -/
open Go.Lib in
theorem dec_dgt (n : Nat) : ∀ c ∈ decDigits n, dgt c = true := by
  have hd : ∀ k, k < 10 → dgt (UInt8.ofNat (48 + k)) = true := by
    intro k hk
    unfold dgt digB
    rw [UInt8.toNat_ofNat']
    exact decide_eq_true (by omega)
  induction n using Nat.strongRecOn with
  | _ n ih =>
    rw [decDigits]
    split
    · rename_i h
      intro c hc
      rw [List.mem_singleton.1 hc]
      exact hd n h
    · intro c hc
      rcases List.mem_append.1 hc with hc | hc
      · exact ih (n / 10) (by omega) c hc
      · rw [List.mem_singleton.1 hc]
        exact hd _ (by omega)
open Go.Lib in
theorem dec_val (n : Nat) : valL (decDigits n) 0 = n := by
  induction n using Nat.strongRecOn with
  | _ n ih =>
    rw [decDigits]
    split
    · rename_i h
      simp only [valL, UInt8.toNat_ofNat']
      omega
    · rename_i h
      rw [valL_append, ih (n / 10) (by omega)]
      simp only [valL, UInt8.toNat_ofNat']
      omega
open Go.Lib in
theorem dec_most : ∀ (k n : Nat), n < 10 ^ (k + 1) → (decDigits n).length ≤ k + 1
  | 0, n, h => by
    rw [decDigits, dif_pos (by omega)]
    exact Nat.le_refl 1
  | k + 1, n, h => by
    rw [decDigits]
    split
    · simp
    · have := dec_most k (n / 10) (by rw [Nat.pow_succ] at h; omega)
      rw [List.length_append]
      simp
      omega
open Go.Lib in
theorem dec_len (n : Nat) : 1 ≤ (decDigits n).length := by
  rw [decDigits]
  split
  · exact Nat.le_refl 1
  · rw [List.length_append]; simp
open Go.Lib in
theorem dec_head {n : Nat} (h : 1 ≤ n) : ∃ c r, decDigits n = c :: r ∧ c ≠ 48 := by
  induction n using Nat.strongRecOn with
  | _ n ih =>
    rw [decDigits]
    split
    · rename_i h10
      refine ⟨_, [], rfl, fun e => ?_⟩
      have := congrArg UInt8.toNat e
      rw [UInt8.toNat_ofNat'] at this
      simp at this
      omega
    · obtain ⟨c, r, e, hc⟩ := ih (n / 10) (by omega) (by omega)
      exact ⟨c, r ++ [UInt8.ofNat (48 + n % 10)], by rw [e]; rfl, hc⟩
theorem valL_ge : ∀ (l : List UInt8) {n : Int}, 1 ≤ n → (∀ c ∈ l, dgt c = true) → 1 ≤ valL l n
  | [], n, h, _ => h
  | c :: l, n, h, hd => by
    have := dgt_bd (hd c List.mem_cons_self)
    rw [valL]
    exact valL_ge l (by omega) fun d hd' => hd d (List.mem_cons_of_mem _ hd')
theorem valL_lt : ∀ (l : List UInt8) {n : Int} {k : Nat}, 0 ≤ n → n < 10 ^ k → (∀ c ∈ l, dgt c = true) → 0 ≤ valL l n ∧ valL l n < 10 ^ (k + l.length)
  | [], n, k, h0, h, _ => ⟨h0, by simpa [valL] using h⟩
  | c :: l, n, k, h0, h, hd => by
    have hb := dgt_bd (hd c List.mem_cons_self)
    have := valL_lt l (n := 10 * n + ((c.toNat : Int) - 48)) (k := k + 1) (by omega) (by rw [Int.pow_succ]; omega) fun d hd' => hd d (List.mem_cons_of_mem _ hd')
    rw [valL, List.length_cons, show k + (l.length + 1) = k + 1 + l.length by omega]
    exact this
open Go.Lib in
/-- Digits without a zero ahead are the numeral of their value. -/
theorem dec_back (l : List UInt8) (hd : ∀ c ∈ l, dgt c = true) (hl : l ≠ []) (h0 : l.head? = some 48 → l = [48]) : decDigits (valL l 0).toNat = l := by
  generalize hn : l.length = n
  induction n generalizing l with
  | zero => exact absurd (List.length_eq_zero_iff.1 hn) hl
  | succ n ih =>
    rcases List.eq_nil_or_concat l with rfl | ⟨a, c, rfl⟩
    · exact absurd rfl hl
    · rw [List.concat_eq_append] at *
      have hc := dgt_bd (hd c (by simp))
      rw [valL_append]
      simp only [valL]
      by_cases ha : a = []
      · subst ha
        simp only [valL, List.nil_append]
        rw [decDigits, dif_pos (by omega)]
        congr 1
        refine UInt8.toNat_inj.1 ?_
        rw [UInt8.toNat_ofNat']
        omega
      · obtain ⟨x, r, rfl⟩ : ∃ x r, a = x :: r := by
          cases a with
          | nil => exact absurd rfl ha
          | cons x r => exact ⟨x, r, rfl⟩
        have hx := dgt_bd (hd x (by simp))
        have hx48 : x ≠ 48 := by
          rintro rfl
          have := congrArg List.length (h0 rfl)
          simp at this
        have hx48' : x.toNat ≠ 48 := fun e => hx48 (UInt8.toNat_inj.1 e)
        have hv : 1 ≤ valL (x :: r) 0 := by
          rw [valL]
          exact valL_ge r (by omega) fun d hd' => hd d (by simp [hd'])
        have ih' := ih (x :: r) (fun d hd' => hd d (List.mem_append_left _ hd')) ha (fun e => by
          exfalso; exact hx48 (by simpa using e)) (by simp at hn ⊢; omega)
        generalize valL (x :: r) 0 = V at *
        rw [decDigits, dif_neg (by omega)]
        rw [show (10 * V + ((c.toNat : Int) - 48)).toNat / 10 = V.toNat by omega, ih', show (10 * V + ((c.toNat : Int) - 48)).toNat % 10 = c.toNat - 48 by omega]
        congr 2
        refine UInt8.toNat_inj.1 ?_
        rw [UInt8.toNat_ofNat']
        omega
open Go.Lib in
theorem itoa_len (z : Int) : 1 ≤ (itoa z).length := by
  unfold itoa
  split
  · simp
  · exact dec_len _
open Go.Lib in
theorem itoa_most {z : Int} {k : Nat} (h : z.natAbs < 10 ^ (k + 1)) : (itoa z).length ≤ k + 2 := by
  unfold itoa
  split
  · have := dec_most k z.natAbs h
    simp; omega
  · have := dec_most k z.toNat (by omega)
    omega
open Go.Lib in
theorem itoa_mem (z : Int) : ∀ c ∈ itoa z, c = 45 ∨ dgt c = true := by
  unfold itoa
  intro c hc
  split at hc
  · rcases List.mem_cons.1 hc with h | h
    · exact .inl h
    · exact .inr (dec_dgt _ c h)
  · exact .inr (dec_dgt _ c hc)
theorem itoa_no {z : Int} {c : UInt8} (h1 : c ≠ 45) (h2 : dgt c = false) : c ∉ Lib.itoa z := fun h => by
  rcases itoa_mem z c h with h | h
  · exact h1 h
  · rw [h2] at h; cases h
end Go.Proofs.YtefdjdipbnnoaaaGreatDoor
