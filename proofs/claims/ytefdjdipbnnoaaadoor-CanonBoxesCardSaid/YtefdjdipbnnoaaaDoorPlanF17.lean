/-
  The text of a list of items. Plain.
-/
import Derived.Test.YtefdjdipbnnoaaaDoorPlanV17
import Derived.Test.YtefdjdipbnnoaaaDoorBytes
namespace Go.Proofs.YtefdjdipbnnoaaaDoor
open Go Go.RowKit
set_option linter.unusedVariables false

def kindsL : List (List UInt8) := [[], [114, 97, 112, 105, 100], [108, 105, 110, 101], [97, 114, 99], [112, 114, 111, 98, 101], [116, 104, 114, 101, 97, 100], [116, 97, 112], [100, 119, 101, 108, 108], [115, 112, 105, 110, 100, 108, 101], [99, 111, 111, 108, 97, 110, 116], [111, 117, 116, 112, 117, 116], [116, 111, 111, 108], [115, 116, 111, 112], [111, 112, 116, 105, 111, 110, 97, 108], [101, 110, 100]]
/-- The name of a kind. -/
def kname (k : Nat) : List UInt8 := kindsL.getD k []
def b2i (b : Bool) : Int := if b then 1 else 0
/-- The numbers of an item, in the order in which they are written. -/
def numsI (i : It) : List Int := [i.block, i.fx, i.fy, i.fz, i.tx, i.ty, i.tz, i.plane, i.cx, i.cy, i.cz, i.dir, b2i i.full, i.feed, b2i i.perRev, i.side, i.radius, i.blend, i.n, i.speed, b2i i.on]
def preN (l : List Int) : List UInt8 := l.flatMap fun n => 32 :: Lib.itoa n
def fmtI (i : It) : List UInt8 := kname i.kind.toNat ++ preN (numsI i) ++ [10]
def fmtIs (l : List It) : List UInt8 := l.flatMap fmtI
/-- canon.Format. -/
def formatI (l : List It) : List UInt8 := if l.all validI then fmtIs l else []
theorem kname_len (k : Nat) : (kname k).length ≤ 8 := by
  by_cases h : k < 15
  · match k, h with
    | 0, _ => decide
    | 1, _ => decide
    | 2, _ => decide
    | 3, _ => decide
    | 4, _ => decide
    | 5, _ => decide
    | 6, _ => decide
    | 7, _ => decide
    | 8, _ => decide
    | 9, _ => decide
    | 10, _ => decide
    | 11, _ => decide
    | 12, _ => decide
    | 13, _ => decide
    | 14, _ => decide
    | n + 15, h => exact absurd h (by omega)
  · have : kindsL.getD k [] = [] := by rw [List.getD_eq_getElem?_getD, List.getElem?_eq_none (by have : kindsL.length = 15 := rfl; omega)]; rfl
    unfold kname
    rw [this]
    decide
/-- The numbers that a text may hold. -/
def Rd (n : Int) : Prop := -60000000 ≤ n ∧ n ≤ 60000000
theorem Rd.itoa {n : Int} (h : Rd n) : (Lib.itoa n).length ≤ 9 := itoa_most (k := 7) (by have : (10 : Nat) ^ (7 + 1) = 100000000 := by decide
                                                                                         obtain ⟨h1, h2⟩ := h; omega)
theorem b2i_rd (b : Bool) : Rd (b2i b) := by cases b <;> (unfold Rd b2i; decide)
theorem insB_rd {n : Int} (h : insB n = true) : Rd n := by have := insB_true h; unfold Rd; omega
theorem withB_rd {x y z : Int} (h : withB x y z = true) : Rd x ∧ Rd y ∧ Rd z := by
  unfold withB at h
  simp only [Bool.and_eq_true] at h
  exact ⟨insB_rd h.1.1, insB_rd h.1.2, insB_rd h.2⟩
theorem arcE_arg {i : It} (h : arcE i = 0) : arcArg i = true := by
  unfold arcE at h
  split at h
  · assumption
  · cases h
theorem validI_kind {i : It} (h : validI i = true) : 1 ≤ i.kind ∧ i.kind ≤ 14 := by
  rw [← rval_eq] at h
  unfold rvalI r1B inK at h
  simp only [Bool.and_eq_true, decide_eq_true_eq] at h
  exact h.1.1
theorem nums_rd {i : It} (h : validI i = true) : ∀ n ∈ numsI i, Rd n := by
  have hk := validI_kind h
  unfold validI at h
  rw [Bool.and_eq_true, decide_eq_true_eq] at h
  obtain ⟨hb, h⟩ := h
  have hbk : Rd i.block := by unfold Rd; omega
  have hall : Rd i.fx ∧ Rd i.fy ∧ Rd i.fz ∧ Rd i.tx ∧ Rd i.ty ∧ Rd i.tz ∧ Rd i.plane ∧ Rd i.cx ∧ Rd i.cy ∧ Rd i.cz ∧ Rd i.dir ∧ Rd i.feed ∧ Rd i.side ∧ Rd i.radius ∧ Rd i.blend ∧ Rd i.n ∧ Rd i.speed := by
    by_cases hm : motK i.kind = true
    · rw [if_pos hm] at h
      have hm2 : 1 ≤ i.kind ∧ i.kind ≤ 6 := of_decide_eq_true hm
      unfold motionB at h
      simp only [Bool.and_eq_true, decide_eq_true_eq] at h
      obtain ⟨h1, h2, h3, h4, h5, h6, h7⟩ := h
      obtain ⟨f1, f2, f3⟩ := withB_rd h1
      obtain ⟨t1, t2, t3⟩ := withB_rd h2
      unfold endB at h7
      rw [decide_eq_true_eq] at h7
      have hcd : Rd i.cx ∧ Rd i.cy ∧ Rd i.cz ∧ Rd i.dir ∧ Rd i.plane := by
        by_cases h3k : i.kind = 3
        · rw [if_pos h3k] at h6
          have ha := arcE_arg h6
          unfold arcArg at ha
          simp only [Bool.and_eq_true, decide_eq_true_eq] at ha
          obtain ⟨_, hp, _, _, hc, hd, _⟩ := ha
          obtain ⟨c1, c2, c3⟩ := withB_rd hc
          unfold flOk at hp
          rw [decide_eq_true_eq] at hp
          exact ⟨c1, c2, c3, by unfold Rd; omega, by unfold Rd; omega⟩
        · rw [if_neg h3k] at h6
          obtain ⟨c1, c2, c3, c4, _⟩ := h6
          refine ⟨by unfold Rd; omega, by unfold Rd; omega, by unfold Rd; omega, by unfold Rd; omega, ?_⟩
          unfold sidedB at h5
          split at h5
          · rw [decide_eq_true_eq] at h5
            unfold Rd
            omega
          · rw [decide_eq_true_eq] at h5
            have hp := h5.2.1
            unfold flOk at hp
            rw [decide_eq_true_eq] at hp
            unfold Rd
            omega
      have hsr : Rd i.side ∧ Rd i.radius := by
        unfold sidedB at h5
        split at h5
        · rw [decide_eq_true_eq] at h5
          unfold Rd
          omega
        · rw [decide_eq_true_eq] at h5
          unfold Rd
          omega
      refine ⟨f1, f2, f3, t1, t2, t3, hcd.2.2.2.2, hcd.1, hcd.2.1, hcd.2.2.1, hcd.2.2.2.1, ?_, hsr.1, hsr.2, ?_, ?_, by unfold Rd; omega⟩
      · unfold Rd
        split at h7 <;> split at h7 <;> omega
      · unfold Rd
        obtain ⟨_, h8⟩ := h7
        split at h8
        · omega
        · obtain ⟨_, _, h8⟩ := h8
          split at h8
          · omega
          · split at h8 <;> omega
      · unfold Rd
        split at h7 <;> omega
    · rw [if_neg hm, Bool.and_eq_true] at h
      obtain ⟨he, hkB⟩ := h
      have he : i = bareI i := of_decide_eq_true he
      have hz : Rd 0 := by unfold Rd; omega
      have hnn : Rd i.n ∧ Rd i.speed := by
        unfold kindB at hkB
        unfold Rd
        repeat' split at hkB
        all_goals first
          | (rw [decide_eq_true_eq] at hkB; omega)
          | cases hkB
      rw [he]
      unfold bareI
      exact ⟨hz, hz, hz, hz, hz, hz, hz, hz, hz, hz, hz, hz, hz, hz, hz, hnn.1, hnn.2⟩
  obtain ⟨a1, a2, a3, a4, a5, a6, a7, a8, a9, a10, a11, a12, a13, a14, a15, a16, a17⟩ := hall
  intro n hn
  unfold numsI at hn
  simp only [List.mem_cons, List.not_mem_nil, or_false] at hn
  rcases hn with rfl | rfl | rfl | rfl | rfl | rfl | rfl | rfl | rfl | rfl | rfl | rfl | rfl | rfl | rfl | rfl | rfl | rfl | rfl | rfl | rfl
  all_goals first | assumption | exact b2i_rd _
theorem preN_len : ∀ {l : List Int}, (∀ n ∈ l, Rd n) → (preN l).length ≤ 10 * l.length
  | [], _ => by simp [preN]
  | n :: l, h => by
    have h1 := (h n List.mem_cons_self).itoa
    have h2 := preN_len (l := l) fun x hx => h x (List.mem_cons_of_mem _ hx)
    unfold preN at h2 ⊢
    rw [List.flatMap_cons, List.length_append, List.length_cons, List.length_cons]
    omega
theorem preN_snoc (l : List Int) (n : Int) : preN (l ++ [n]) = preN l ++ [32] ++ Lib.itoa n := by simp [preN]
theorem fmtI_len {i : It} (h : validI i = true) : (fmtI i).length ≤ 219 := by
  have h1 := kname_len i.kind.toNat
  have h2 := preN_len (nums_rd h)
  have h3 : (numsI i).length = 21 := rfl
  unfold fmtI
  simp only [List.length_append, List.length_cons, List.length_nil]
  omega
theorem fmtIs_snoc (l : List It) (t : It) : fmtIs (l ++ [t]) = fmtIs l ++ fmtI t := by simp [fmtIs]
theorem fmtIs_len : ∀ {l : List It}, (∀ t ∈ l, validI t = true) → (fmtIs l).length ≤ 219 * l.length
  | [], _ => by simp [fmtIs]
  | t :: l, h => by
    have h1 := fmtI_len (h t List.mem_cons_self)
    have h2 := fmtIs_len (l := l) fun x hx => h x (List.mem_cons_of_mem _ hx)
    unfold fmtIs at h2 ⊢
    rw [List.flatMap_cons, List.length_append, List.length_cons]
    omega
theorem take_snoc {α : Type} {l : List α} {k : Nat} {x : α} (h : l[k]? = some x) : l.take (k + 1) = l.take k ++ [x] := by
  obtain ⟨hl, rfl⟩ := List.getElem?_eq_some_iff.1 h
  rw [List.take_succ_eq_append_getElem hl]
end Go.Proofs.YtefdjdipbnnoaaaDoor
