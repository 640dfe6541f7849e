/-
  Numbers that lie where a slice leads. No program's function is named in it.
-/
import Derived.Test.YteiogjgmedikhaaBase
namespace Go.Proofs.Yteiogjgmedikhaa
open Go Go.RowKit
set_option linter.unusedVariables false

/-- n numbers that lie where a slice leads. -/
def IntsAt (w : World) (a : Option Addr) (n : Nat) (z : Nat → Int) : Prop := ∀ i, i < n → ∃ b o, a = some ⟨b, o, none⟩ ∧ b < w.heap.size ∧ w.cell? ⟨b, o + i, none⟩ = some (.int .i64 (z i))
theorem IntsAt.below {w w' : World} {a : Option Addr} {n : Nat} {z : Nat → Int} (h : IntsAt w a n z) (hb : Below w.heap.size w w') : IntsAt w' a n z := fun i hi => by
  obtain ⟨b, o, e, hl, hc⟩ := h i hi
  exact ⟨b, o, e, by have := hb.size; omega, (hb.cell hl).trans hc⟩
theorem IntsAt.drewN {w : World} {a : Option Addr} {n : Nat} {z : Nat → Int} (h : IntsAt w a n z) (k : Nat) : IntsAt (w.drewN k) a n z := h
theorem IntsAt.own {w : World} {base n e : Nat} {a : Option Addr} {c : Nat} {z : List Int} (h : w.ownsRow base e 1 (.slice a n c) n (z.map (Value.int .i64))) : IntsAt w a n (fun i => z.getD i 0) := by
  intro i hi
  rcases h.2 with ⟨_, h0⟩ | ⟨g, cap, cur, hv, _, hg, _⟩
  · omega
  · injection hv with ha _ hc
    subst ha
    subst hc
    have hlen := h.1
    have hc' := h.cellAt i (by omega)
    refine ⟨g, 0, rfl, (Array.getElem?_eq_some_iff.1 hg).1, ?_⟩
    rw [Nat.zero_add, hc']
    simp at hlen
    simp [show i < z.length by omega]
theorem IsRow.ints {w : World} {a : Option Addr} {n c : Nat} {z : List Int} (h : IsRow .i64 w a n c z) : IntsAt w a n (fun i => z.getD i 0) := h.num
end Go.Proofs.Yteiogjgmedikhaa
