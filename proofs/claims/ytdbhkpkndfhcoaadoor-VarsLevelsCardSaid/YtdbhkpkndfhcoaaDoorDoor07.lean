/-
  Scripts that came in as arguments lie in memory. No condition.
-/
import Derived.Test.YtdbhkpkndfhcoaaDoorVPlays07
import Derived.Test.YtdbhkpkndfhcoaaDoorArgs
namespace Go.Proofs.YtdbhkpkndfhcoaaDoor
open Go Go.RowKit
set_option linter.unusedVariables false

def actKs : List Kind := [.int .i64, .int .i64, .int .i64, .bool, .tab valueKs]
def numV : Value → Int | .int _ z => z | _ => 0
def flagV : Value → Bool | .bool b => b | _ => false
theorem leaf_num {w : World} {v : Value} (h : Leaf w (.int .i64) v) : v = .int .i64 (numV v) := by
  obtain ⟨z, rfl, _⟩ := h.num
  rfl
theorem leaf_flag {w : World} {v : Value} (h : Leaf w .bool v) : v = .bool (flagV v) := by
  obtain ⟨z, rfl⟩ := h.flag
  rfl
theorem args_leaf {w : World} {a : Option Addr} {len cap : Nat} (h : Leaf w (.tab valueKs) (.slice a len cap)) : ∃ A : List (Int × Int), A.length = len ∧ ArgsAt w a A ∧ len ≤ 9223372036854775807 := by
  cases a with
  | none =>
    cases h with
    | nil => exact ⟨[], rfl, fun i c v hi => by simp at hi, by omega⟩
  | some x =>
    have h' := h
    cases h with
    | tab _ _ _ _ R hl hm hc hL =>
      refine ⟨(List.range len).map fun i => (numV (R i 0), numV (R i 1)), by simp, fun i c v hi => ?_, by unfold maxLen at hm; omega⟩
      have hlt : i < len := by simpa using (List.getElem?_eq_some_iff.1 hi).1
      rw [List.getElem?_map, List.getElem?_range hlt] at hi
      injection hi with hi
      injection hi with e1 e2
      obtain ⟨hb, hx⟩ := h'.spot (by omega) (by decide)
      have r0 := leaf_num (hL i (by omega) 0 _ rfl)
      have r1 := leaf_num (hL i (by omega) 1 _ rfl)
      rw [e1] at r0
      rw [e2] at r1
      have c0 := hc i (by omega) 0 _ rfl
      have c1 := hc i (by omega) 1 _ rfl
      rw [hx, Addr.add_mid] at c0 c1
      exact ⟨x.block, x.off, by rw [← hx], hb, by rw [← r0, ← c0]; rfl, by rw [← r1, ← c1, ← Nat.add_assoc]; rfl⟩
def addrV : Value → Option Addr | .slice a _ _ => a | _ => none
def capV : Value → Nat | .slice _ _ c => c | _ => 0
theorem acts_leaf {w : World} {a : Option Addr} {len cap : Nat} (h : Leaf w (.tab actKs) (.slice a len cap)) : ∃ L : List ActD, L.length = len ∧ ActsAt w a L ∧ len ≤ 9223372036854775807 := by
  cases a with
  | none =>
    cases h with
    | nil => exact ⟨[], rfl, fun i d hi => by simp at hi, by omega⟩
  | some x =>
    have h' := h
    cases h with
    | tab _ _ _ _ R hl hm hc hL =>
      have hargs : ∀ i, ∃ A : List (Int × Int), i < len → ArgsAt w (addrV (R i 4)) A ∧ R i 4 = .slice (addrV (R i 4)) A.length (capV (R i 4)) ∧ A.length ≤ 9223372036854775807 := by
        intro i
        by_cases hi : i < len
        · have h4 := hL i (by omega) 4 _ rfl
          have hform : ∃ a2 l2 c2, R i 4 = .slice a2 l2 c2 := by
            generalize R i 4 = u at h4
            cases h4 with
            | nil => exact ⟨_, _, _, rfl⟩
            | tab _ x2 l2 c2 => exact ⟨_, _, _, rfl⟩
          obtain ⟨a2, l2, c2, e⟩ := hform
          rw [e] at h4
          obtain ⟨A, rfl, hA, hm2⟩ := args_leaf h4
          exact ⟨A, fun _ => by rw [e]; exact ⟨hA, rfl, hm2⟩⟩
        · exact ⟨[], fun h => absurd h hi⟩
      obtain ⟨F, hF⟩ := Classical.axiomOfChoice hargs
      refine ⟨(List.range len).map fun i => ⟨numV (R i 0), numV (R i 1), numV (R i 2), flagV (R i 3), addrV (R i 4), F i, capV (R i 4)⟩, by simp, fun i d hi => ?_, by unfold maxLen at hm; omega⟩
      have hlt : i < len := by simpa using (List.getElem?_eq_some_iff.1 hi).1
      rw [List.getElem?_map, List.getElem?_range hlt] at hi
      injection hi with hi
      subst hi
      obtain ⟨hb, hx⟩ := h'.spot (by omega) (by decide)
      obtain ⟨f1, f2, f3⟩ := hF i hlt
      have r0 := leaf_num (hL i (by omega) 0 _ rfl)
      have r1 := leaf_num (hL i (by omega) 1 _ rfl)
      have r2 := leaf_num (hL i (by omega) 2 _ rfl)
      have r3 := leaf_flag (hL i (by omega) 3 _ rfl)
      refine ⟨x.block, x.off, by rw [← hx], hb, fun j v hj => ?_, f1, f3⟩
      have hc' : ∀ j k, actKs[j]? = some k → w.cell? ⟨x.block, x.off + i * 5 + j, none⟩ = some (R i j) := by
        intro j k hk
        have := hc i (by omega) j k hk
        rw [hx, Addr.add_mid, ← Nat.add_assoc] at this
        exact this
      simp only [ActD.cells] at hj
      rcases j with _ | _ | _ | _ | _ | j
      · rw [hc' 0 _ rfl, r0]; exact hj
      · rw [hc' 1 _ rfl, r1]; exact hj
      · rw [hc' 2 _ rfl, r2]; exact hj
      · rw [hc' 3 _ rfl, r3]; exact hj
      · rw [hc' 4 _ rfl, f2]; exact hj
      · simp at hj
theorem vplays_leaf (a : Option Addr) (len cap : Nat) (w : World) (ht : Lib.TabIs Tryd.prog w "cnc/vars.numbers" .i64 tabNums) (h : Leaf w (.tab actKs) (.slice a len cap)) :
    Calls Tryd.prog 6 #[.slice a len cap] w fun e w' => e = .returned (.bool true) ∧ Below w.heap.size w w' := by
  obtain ⟨L, rfl, hA, hn⟩ := acts_leaf h
  exact vplays_walk a L cap w hA hn ht
end Go.Proofs.YtdbhkpkndfhcoaaDoor
