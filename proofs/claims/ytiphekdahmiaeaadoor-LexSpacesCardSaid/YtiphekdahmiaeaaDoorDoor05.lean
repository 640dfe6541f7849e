/-
  The table of the names, as the row lists it, lies in memory. No condition.
-/
import Derived.Test.YtiphekdahmiaeaaDoorLTok05
import Derived.Lib.LaidTab
namespace Go.Proofs.YtiphekdahmiaeaaDoor
open Go Go.RowKit
set_option linter.unusedVariables false

def strData {H : Type} (ls : List (List UInt8)) : DataW H := .agg (ls.map fun l => .lit (.string l))
theorem cells_of_strs {H : Type} {enc : TypeId × Value → H} {P : Program} {w : World} {base : Nat} {sp : Nat → Bool} {held : Bool} {fuel : Nat} {t e : TypeId} {n : Nat} {cs : List Value} {ls : List (List UInt8)} {p : List MemPlace}
    (ht : P.underlying t = some (.array n e)) (he : P.underlying e = some .string) (hce : P.cellsOf e = 1) (hct : P.cellsOf t = n)
    (h : DataW.trod enc P w base sp held fuel t cs = some (strData ls, p)) : cs = ls.map fun l => Value.string (mkB l) := by
  cases fuel with
  | zero => simp [DataW.trod] at h
  | succ fuel =>
    simp only [DataW.trod, ht, hce, hct, Nat.mul_one] at h
    split at h
    · rename_i hl
      obtain ⟨xs, hm, hx⟩ := Option.map_eq_some_iff.1 h
      have hxs : xs.map (·.1) = ls.map fun l => (DataW.lit (.string l) : DataW H) := by
        have := congrArg Prod.fst hx
        simpa [strData] using this
      have hxl : xs.length = n := by simpa using Lib.mapM_length hm
      have hzl : ls.length = n := by
        have := congrArg List.length hxs
        simp at this
        omega
      apply List.ext_getElem?
      intro i
      by_cases hi : i < n
      · obtain ⟨b, hb, hf⟩ := Lib.mapM_at hm i i (by simp [hi])
        obtain ⟨z, hc, rfl, _⟩ := DataW.trod_string he hf
        have h1 : cs[i]? = some (.string z) := by
          have := congrArg (·[0]?) hc
          simpa [List.getElem?_take, List.getElem?_drop] using this
        have h2 : (xs.map (·.1))[i]? = some (DataW.lit (.string z.data.toList) : DataW H) := by simp [hb]
        rw [hxs] at h2
        simp only [List.getElem?_map, Option.map_eq_some_iff, DataW.lit.injEq, Lit.string.injEq] at h2
        obtain ⟨l, hl', e⟩ := h2
        have e2 : mkB l = z := by rw [e]; exact mkB_bl z
        simp [h1, hl', e2]
      · rw [List.getElem?_eq_none (by omega), List.getElem?_eq_none (by simp; omega)]
    · cases h
theorem namesC_eq : namesC = (namesL.map fun l => Value.string (mkB l)).toArray := rfl
theorem names_of_head {W : World} {rest : List (String × DataW Unit)} (h : laidMet Tryd.prog (("cnc/lex.names", strData namesL) :: rest) W) : NamesIs W := by
  obtain ⟨ps, ⟨g', t', cs, fuel, p, q, hg', ht', hvar, hd, _, _⟩, _⟩ := h
  obtain rfl := Option.some.inj (gNames.symm.trans hg')
  obtain rfl := Option.some.inj ((show (Tryd.prog.globals[0]?).map (·.type) = some 60 by kernel_rfl).symm.trans ht')
  unfold NamesIs
  rw [hvar, ← Array.toArray_toList (xs := cs), cells_of_strs Tryd.underlying60 Tryd.underlying9 (by kernel_rfl) (by kernel_rfl) hd, namesC_eq]
theorem NamesIs.pos {w : World} (h : NamesIs w) : 0 < w.heap.size := by
  obtain ⟨t, fr, e⟩ := h.row
  exact (Array.getElem?_eq_some_iff.1 e).1
end Go.Proofs.YtiphekdahmiaeaaDoor
