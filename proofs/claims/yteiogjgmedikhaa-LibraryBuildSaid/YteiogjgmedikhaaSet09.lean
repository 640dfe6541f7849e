/-
  A map from integers to true: asked, and given one more key. No program's function is named in it.
-/
import Derived.Test.YteiogjgmedikhaaHeldL
import Derived.Maps.OwnSet
namespace Go.Proofs.Yteiogjgmedikhaa
open Go Go.RowKit Go.ChangeShapes Go.WideShapes Go.MapKept Go.ChangeMaps Go.Maps Go.WideElems
set_option linter.unusedVariables false

/-- Block b is a map in which just these keys stand, each at true. -/
def SetAt (W : World) (b : Nat) (keys : List Int) : Prop :=
  ∃ es clock, W.heap[b]? = some (.map es clock) ∧ es.toList.map (·.key) = keys.map (Value.int .i64 ·) ∧ ∀ e ∈ es.toList, e.val = .bool true
section
variable {P : Program} {W W' : World} {b : Nat} {keys : List Int}
theorem SetAt.new (W : World) : SetAt (W.alloc (.map #[] 0)) W.heap.size [] := ⟨#[], 0, heap_alloc_new W _, rfl, fun e he => by simp at he⟩
theorem SetAt.lt (h : SetAt W b keys) : b < W.heap.size := by obtain ⟨es, c, h, _⟩ := h; exact (Array.getElem?_eq_some_iff.1 h).1
theorem SetAt.keep (h : SetAt W b keys) (hk : W'.heap[b]? = W.heap[b]?) : SetAt W' b keys := by obtain ⟨es, c, h, r⟩ := h; exact ⟨es, c, hk.trans h, r⟩
theorem SetAt.grown (h : SetAt W b keys) {row : Option Nat} (hg : W.grownBy W' row) (hr : some b ≠ row) : SetAt W' b keys := h.keep (hg.block b h.lt hr)
theorem SetAt.below {B : Nat} (h : SetAt W b keys) (hb : Below B W W') (hr : b < B) : SetAt W' b keys := h.keep (hb.block b hr)
variable {t k e : TypeId}
theorem set_mem {es : List MapEntry} (hes : es.map (·.key) = keys.map (Value.int .i64 ·)) {x : Int} : (∃ y ∈ es, y.key = .int .i64 x) ↔ x ∈ keys := by
  constructor
  · rintro ⟨y, hy, e⟩
    have : y.key ∈ es.map (·.key) := List.mem_map.2 ⟨y, hy, rfl⟩
    rw [hes, e] at this
    obtain ⟨z, hz, e2⟩ := List.mem_map.1 this
    injection e2 with _ e2
    rwa [← e2]
  · intro hx
    have : Value.int .i64 x ∈ keys.map (Value.int .i64 ·) := List.mem_map.2 ⟨x, hx, rfl⟩
    rw [← hes] at this
    obtain ⟨y, hy, e⟩ := List.mem_map.1 this
    exact ⟨y, hy, e⟩
theorem SetAt.look (h : SetAt W b keys) (hk : P.underlying k = some (.int .i64)) (ht : P.underlying t = some (.map k e)) (hz : (zeroValue e).run P W = .ok (.bool false) W) {x : Int} (hx : (Lit.int .i64 x).wf = true) (hw : ∀ y ∈ keys, (Lit.int .i64 y).wf = true) :
    (Instr.lookup t (.map (some b)) (.int .i64 x) false).run P W = .ok (.bool (decide (x ∈ keys))) W := by
  obtain ⟨es, clock, hb, hes, hv⟩ := h
  have K := int_keyed hk
  have hkey : keyOf P k (.int .i64 x) = some (.int .i64 x) := keyOf_int_mk hk hx
  have hkeys : ∀ y ∈ es.toList, ∃ l, keyOf P k y.key = some l := fun y hy => by
    have : y.key ∈ es.toList.map (·.key) := List.mem_map.2 ⟨y, hy, rfl⟩
    rw [hes] at this
    obtain ⟨z, hz, e2⟩ := List.mem_map.1 this
    exact ⟨.int .i64 z, by rw [← e2]; exact keyOf_int_mk hk (hw z hz)⟩
  rcases K.find W hkey es.toList hkeys with ⟨h1, h2⟩ | ⟨j, e0, h1, h2, h3⟩
  · have hn : x ∉ keys := fun hm => by
      obtain ⟨y, hy, e⟩ := (set_mem hes).2 hm
      exact h2 y hy e
    simp [Instr.lookup, run_underlying ht, MapKept.run_getObj_map hb, K.check W _ hkey, h1, hz, Result.andThen, hn]
  · have hm0 : e0 ∈ es.toList := List.mem_of_getElem? h2
    have hm : x ∈ keys := (set_mem hes).1 ⟨e0, hm0, h3⟩
    simp [Instr.lookup, run_underlying ht, MapKept.run_getObj_map hb, K.check W _ hkey, h1, Result.andThen, hm, hv e0 hm0]
theorem SetAt.store (h : SetAt W b keys) (hk : P.underlying k = some (.int .i64)) (ht : P.underlying t = some (.map k e)) {x : Int} (hx : (Lit.int .i64 x).wf = true) (hw : ∀ y ∈ keys, (Lit.int .i64 y).wf = true) (hn : x ∉ keys) :
    ∃ W', (Instr.mapUpdate t (.map (some b)) (.int .i64 x) (.bool true)).run P W = .ok () W' ∧ SetAt W' b (keys ++ [x]) ∧ W.grownBy W' (some b) := by
  obtain ⟨es, clock, hb, hes, hv⟩ := h
  have K := int_keyed hk
  have hkey : keyOf P k (.int .i64 x) = some (.int .i64 x) := keyOf_int_mk hk hx
  have hkeys : ∀ y ∈ es.toList, ∃ l, keyOf P k y.key = some l := fun y hy => by
    have : y.key ∈ es.toList.map (·.key) := List.mem_map.2 ⟨y, hy, rfl⟩
    rw [hes] at this
    obtain ⟨z, hz, e2⟩ := List.mem_map.1 this
    exact ⟨.int .i64 z, by rw [← e2]; exact keyOf_int_mk hk (hw z hz)⟩
  rcases K.find W hkey es.toList hkeys with ⟨h1, h2⟩ | ⟨j, e0, h1, h2, h3⟩
  · refine ⟨setBlock W b (.map (es.push ⟨.int .i64 x, .bool true, clock⟩) (clock + 1)), ?_, ⟨_, _, heap_setBlock_same hb _, ?_, ?_⟩, ⟨rfl, rfl, rfl, by simp [setBlock], fun i _ hi => heap_setBlock_other hb _ (fun e => hi (by rw [e]))⟩⟩
    · simp [Instr.mapUpdate, run_underlying ht, MapKept.run_getObj_map hb, K.check W false hkey, h1, MapKept.run_setObj_map _ hb, Result.andThen, setBlock]
    · simp [hes]
    · intro e he
      simp at he
      rcases he with he | rfl
      · exact hv e (by simpa using he)
      · rfl
  · exact absurd ((set_mem hes).1 ⟨e0, List.mem_of_getElem? h2, h3⟩) hn
end
end Go.Proofs.Yteiogjgmedikhaa
