/-
  The variables that are read (the names of the kinds, strconv's powers of ten, bytealg.MaxLen); event.kinds: the map from names to kinds. No condition beyond what the variables hold.
-/
import Derived.Test.YtkafmpgihhnhdaaDoorPlan33
import Derived.Test.YtkafmpgihhnhdaaDoorShelf33
import Derived.Test.YtkafmpgihhnhdaaDoorHeldL
import Derived.Test.YtkafmpgihhnhdaaDoorBuild
import Derived.Maps.OwnSet
import Derived.Lib.Hide
namespace Go.Proofs.YtkafmpgihhnhdaaDoor
open Go Go.RowKit Go.ChangeShapes Go.WideShapes Go.MapKept Go.ChangeMaps Go.Maps Go.WideElems
set_option linter.unusedVariables false

theorem neB {c : Int} {n : Int} (h : c ≠ n) : (c == n) = false := by simpa using h
theorem eqB {c : Int} {n : Int} (h : c = n) : (c == n) = true := by simpa using h
theorem ix_run (s : ByteArray) (i : Nat) (h : i < s.size) (W : World) : (Instr.index 9 (.string s) (.int .i64 i)).run Tryd.prog W = .ok (.int .u8 (byt s i)) W := by
  rw [run_index_string W 9 s .i64 i Tryd.underlying9, dif_pos ⟨by omega, by omega⟩, byt_at s i h]
  rfl
/-! ### The variables -/
def enamesC : Array Value := #[.string ⟨#[102, 101, 101, 100]⟩, .string ⟨#[114, 97, 112, 105, 100]⟩, .string ⟨#[104, 111, 108, 100]⟩, .string ⟨#[114, 101, 115, 117, 109, 101]⟩, .string ⟨#[115, 105, 110, 103, 108, 101]⟩, .string ⟨#[111, 112, 116, 105, 111, 110, 97, 108]⟩, .string ⟨#[114, 101, 116, 114, 97, 99, 101]⟩, .string ⟨#[115, 119, 105, 116, 99, 104]⟩, .string ⟨#[115, 116, 111, 112]⟩, .string ⟨#[112, 111, 119, 101, 114]⟩, .string ⟨#[114, 101, 115, 101, 116]⟩, .string ⟨#[112, 114, 111, 98, 101]⟩, .string ⟨#[108, 97, 103]⟩]
def nmE (i : Nat) : ByteArray := mkB (nameL i)
theorem enm_run : ∀ (i : Nat), i < 13 → ∀ W : World, (Instr.index 56 (.agg enamesC) (.int .i64 i)).run Tryd.prog W = .ok (.string (nmE i)) W
  | 0, _, W => by show (Instr.index 56 (.agg enamesC) (.int .i64 0)).run Tryd.prog W = .ok (.string (nmE 0)) W; kernel_rfl
  | 1, _, W => by show (Instr.index 56 (.agg enamesC) (.int .i64 1)).run Tryd.prog W = .ok (.string (nmE 1)) W; kernel_rfl
  | 2, _, W => by show (Instr.index 56 (.agg enamesC) (.int .i64 2)).run Tryd.prog W = .ok (.string (nmE 2)) W; kernel_rfl
  | 3, _, W => by show (Instr.index 56 (.agg enamesC) (.int .i64 3)).run Tryd.prog W = .ok (.string (nmE 3)) W; kernel_rfl
  | 4, _, W => by show (Instr.index 56 (.agg enamesC) (.int .i64 4)).run Tryd.prog W = .ok (.string (nmE 4)) W; kernel_rfl
  | 5, _, W => by show (Instr.index 56 (.agg enamesC) (.int .i64 5)).run Tryd.prog W = .ok (.string (nmE 5)) W; kernel_rfl
  | 6, _, W => by show (Instr.index 56 (.agg enamesC) (.int .i64 6)).run Tryd.prog W = .ok (.string (nmE 6)) W; kernel_rfl
  | 7, _, W => by show (Instr.index 56 (.agg enamesC) (.int .i64 7)).run Tryd.prog W = .ok (.string (nmE 7)) W; kernel_rfl
  | 8, _, W => by show (Instr.index 56 (.agg enamesC) (.int .i64 8)).run Tryd.prog W = .ok (.string (nmE 8)) W; kernel_rfl
  | 9, _, W => by show (Instr.index 56 (.agg enamesC) (.int .i64 9)).run Tryd.prog W = .ok (.string (nmE 9)) W; kernel_rfl
  | 10, _, W => by show (Instr.index 56 (.agg enamesC) (.int .i64 10)).run Tryd.prog W = .ok (.string (nmE 10)) W; kernel_rfl
  | 11, _, W => by show (Instr.index 56 (.agg enamesC) (.int .i64 11)).run Tryd.prog W = .ok (.string (nmE 11)) W; kernel_rfl
  | 12, _, W => by show (Instr.index 56 (.agg enamesC) (.int .i64 12)).run Tryd.prog W = .ok (.string (nmE 12)) W; kernel_rfl
  | n + 13, h, _ => by omega
theorem enamesC_at (i : Nat) (h : i < 13) : enamesC[i]? = some (.string (nmE i)) := by
  have : ∀ j : Fin 13, enamesC[j.val]? = some (.string (nmE j.val)) := by
    intro j
    match j with
    | ⟨0, _⟩ => rfl
    | ⟨1, _⟩ => rfl
    | ⟨2, _⟩ => rfl
    | ⟨3, _⟩ => rfl
    | ⟨4, _⟩ => rfl
    | ⟨5, _⟩ => rfl
    | ⟨6, _⟩ => rfl
    | ⟨7, _⟩ => rfl
    | ⟨8, _⟩ => rfl
    | ⟨9, _⟩ => rfl
    | ⟨10, _⟩ => rfl
    | ⟨11, _⟩ => rfl
    | ⟨12, _⟩ => rfl
  exact this ⟨i, h⟩
theorem nmE_size (i : Nat) : (nmE i).size ≤ 8 := by unfold nmE; rw [mkB_size]; exact name_len i
structure Env (w : World) : Prop where
  names : w.var? Tryd.prog "cnc/event.names" = some enamesC
  pow : Lib.TabIs Tryd.prog w "internal/strconv.uint64pow10" .u64 Lib.pow10Tab
  max : ∃ m, w.cell? ⟨1, 0, none⟩ = some (.int .i64 m)
  low : 3 ≤ w.heap.size
theorem gE : Tryd.prog.globalNamed "cnc/event.names" = some 0 := by kernel_rfl
theorem gP : Tryd.prog.globalNamed "internal/strconv.uint64pow10" = some 2 := by kernel_rfl
theorem Env.below {B : Nat} {w w' : World} (h : Env w) (hb : Below B w w') (hB : 3 ≤ B) : Env w' :=
  ⟨var?_below hb gE (by omega) h.names, var?_below hb gP (by omega) h.pow, by
    obtain ⟨m, hm⟩ := h.max
    exact ⟨m, (hb.cell (p := ⟨1, 0, none⟩) (by show 1 < B; omega)).trans hm⟩, by have := hb.size; have := h.low; omega⟩
theorem Env.row {w : World} (h : Env w) : ∃ t fr, w.heap[0]? = some (.cells enamesC t fr) := by
  have h := h.names
  unfold World.var? at h
  rw [gE] at h
  simp only [Option.bind_some] at h
  split at h
  · rename_i cs t fr e
    injection h with h
    subst h
    exact ⟨t, fr, e⟩
  · cases h
theorem info13 : (Tryd.prog.info? 56).map (·.size) = some enamesC.size := by kernel_rfl

/-! ### The map -/
def kindE (i : Nat) : Value × Value := (.string (nmE i), .int .i64 ((i : Int) + 1))
/-- Block b is a map in which the first k names stand, each at its kind. -/
def KindAt (W : World) (b k : Nat) : Prop :=
  ∃ es clock, W.heap[b]? = some (.map es clock) ∧ es.toList.map (fun y => (y.key, y.val)) = (List.range k).map kindE
section
variable {P : Program} {W W' : World} {b k : Nat}
theorem KindAt.new (W : World) : KindAt (W.alloc (.map #[] 0)) W.heap.size 0 := ⟨#[], 0, heap_alloc_new W _, rfl⟩
theorem KindAt.lt (h : KindAt W b k) : b < W.heap.size := by obtain ⟨es, c, h, _⟩ := h; exact (Array.getElem?_eq_some_iff.1 h).1
theorem KindAt.keep (h : KindAt W b k) (hk : W'.heap[b]? = W.heap[b]?) : KindAt W' b k := by obtain ⟨es, c, h, r⟩ := h; exact ⟨es, c, hk.trans h, r⟩
theorem KindAt.below {B : Nat} (h : KindAt W b k) (hb : Below B W W') (hr : b < B) : KindAt W' b k := h.keep (hb.block b hr)
theorem nmE_inj {i j : Nat} (hi : i < 13) (hj : j < 13) (h : nmE i = nmE j) : i = j := by
  have h : nameL i = nameL j := by
    have := congrArg bl h
    unfold nmE at this
    rwa [bl_mkB, bl_mkB] at this
  have h1 := kindN_of i hi
  rw [h, kindN_of j hj] at h1
  omega
variable {t kt e : TypeId}
theorem strKey (hk : P.underlying kt = some .string) {s : ByteArray} (hs : s.size ≤ maxLen) : ∃ l, keyOf P kt (.string s) = some l := by
  rw [keyOf_string hk]
  simp [mapKey, hk]
  exact hs
theorem nmE_max (i : Nat) : (nmE i).size ≤ maxLen := by
  have := nmE_size i
  unfold maxLen
  omega
theorem KindAt.look (h : KindAt W b 13) (hk : P.underlying kt = some .string) (ht : P.underlying t = some (.map kt e)) (hz : (zeroValue e).run P W = .ok (.int .i64 0) W) (s : ByteArray) (hsm : s.size ≤ maxLen) :
    (Instr.lookup t (.map (some b)) (.string s) false).run P W = .ok (.int .i64 (kindN 13 (bl s))) W := by
  obtain ⟨es, clock, hb, hes⟩ := h
  have K := string_keyed hk
  obtain ⟨l, hkey⟩ := strKey hk hsm
  have hmem : ∀ y ∈ es.toList, ∃ i, i < 13 ∧ y.key = .string (nmE i) ∧ y.val = .int .i64 ((i : Int) + 1) := fun y hy => by
    have : (y.key, y.val) ∈ es.toList.map fun y => (y.key, y.val) := List.mem_map.2 ⟨y, hy, rfl⟩
    rw [hes] at this
    obtain ⟨i, hi, e2⟩ := List.mem_map.1 this
    unfold kindE at e2
    injection e2 with e3 e4
    exact ⟨i, List.mem_range.1 hi, e3.symm, e4.symm⟩
  have hkeys : ∀ y ∈ es.toList, ∃ l, keyOf P kt y.key = some l := fun y hy => by
    obtain ⟨i, _, e, _⟩ := hmem y hy
    rw [e]
    exact strKey hk (nmE_max _)
  rcases K.find W hkey es.toList hkeys with ⟨h1, h2⟩ | ⟨j, e0, h1, h2, h3⟩
  · have hn : kindN 13 (bl s) = 0 := by
      by_cases hpos : 0 < kindN 13 (bl s)
      · exfalso
        have hbd := kindN_bd 13 (bl s)
        have hnm := kindN_name hpos
        have hin : kindE (kindN 13 (bl s) - 1).toNat ∈ (List.range 13).map kindE := List.mem_map.2 ⟨_, List.mem_range.2 (by omega), rfl⟩
        rw [← hes] at hin
        obtain ⟨y, hy, e2⟩ := List.mem_map.1 hin
        unfold kindE at e2
        injection e2 with e3 _
        refine h2 y hy ?_
        rw [e3]
        unfold nmE
        rw [hnm, mkB_bl]
      · have := (kindN_bd 13 (bl s)).1
        omega
    simp [Instr.lookup, run_underlying ht, MapKept.run_getObj_map hb, K.check W _ hkey, h1, hz, Result.andThen, hn]
  · have hm0 : e0 ∈ es.toList := List.mem_of_getElem? h2
    obtain ⟨i, hi, e1, e2⟩ := hmem e0 hm0
    have hs : s = nmE i := by
      rw [e1] at h3
      injection h3 with h3
      exact h3.symm
    have hn : kindN 13 (bl s) = (i : Int) + 1 := by
      rw [hs]
      unfold nmE
      rw [bl_mkB]
      exact kindN_of i hi
    simp [Instr.lookup, run_underlying ht, MapKept.run_getObj_map hb, K.check W _ hkey, h1, Result.andThen, hn, e2]
theorem KindAt.store (h : KindAt W b k) (hk13 : k < 13) (hk : P.underlying kt = some .string) (ht : P.underlying t = some (.map kt e)) :
    ∃ W', (Instr.mapUpdate t (.map (some b)) (.string (nmE k)) (.int .i64 ((k : Int) + 1))).run P W = .ok () W' ∧ KindAt W' b (k + 1) ∧ W.grownBy W' (some b) := by
  obtain ⟨es, clock, hb, hes⟩ := h
  have K := string_keyed hk
  obtain ⟨l, hkey⟩ := strKey hk (nmE_max k)
  have hmem : ∀ y ∈ es.toList, ∃ i, i < k ∧ y.key = .string (nmE i) := fun y hy => by
    have : (y.key, y.val) ∈ es.toList.map fun y => (y.key, y.val) := List.mem_map.2 ⟨y, hy, rfl⟩
    rw [hes] at this
    obtain ⟨i, hi, e2⟩ := List.mem_map.1 this
    unfold kindE at e2
    injection e2 with e3 e4
    exact ⟨i, List.mem_range.1 hi, e3.symm⟩
  have hkeys : ∀ y ∈ es.toList, ∃ l, keyOf P kt y.key = some l := fun y hy => by
    obtain ⟨i, _, e⟩ := hmem y hy
    rw [e]
    exact strKey hk (nmE_max _)
  rcases K.find W hkey es.toList hkeys with ⟨h1, h2⟩ | ⟨j, e0, h1, h2, h3⟩
  · refine ⟨setBlock W b (.map (es.push ⟨.string (nmE k), .int .i64 ((k : Int) + 1), clock⟩) (clock + 1)), ?_, ⟨_, _, heap_setBlock_same hb _, ?_⟩, ⟨rfl, rfl, rfl, by simp [setBlock], fun i _ hi => heap_setBlock_other hb _ (fun e => hi (by rw [e]))⟩⟩
    · simp [Instr.mapUpdate, run_underlying ht, MapKept.run_getObj_map hb, K.check W false hkey, h1, MapKept.run_setObj_map _ hb, Result.andThen, setBlock]
    · rw [List.range_succ, List.map_append, ← hes]
      simp [kindE]
  · exfalso
    obtain ⟨i, hi, e1⟩ := hmem e0 (List.mem_of_getElem? h2)
    rw [e1] at h3
    injection h3 with h3
    have := nmE_inj (by omega) hk13 h3
    omega
end
end Go.Proofs.YtkafmpgihhnhdaaDoor
