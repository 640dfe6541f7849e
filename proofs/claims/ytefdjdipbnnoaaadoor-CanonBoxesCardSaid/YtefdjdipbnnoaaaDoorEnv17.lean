/-
  The variables that are read: the names of the kinds, strconv's powers of ten. No condition.
-/
import Derived.Test.YtefdjdipbnnoaaaDoorPlanF17
import Derived.Test.YtefdjdipbnnoaaaDoorShelf17
import Derived.Test.YtefdjdipbnnoaaaDoorHeldL
import Derived.Lib.AppendIntMem
import Derived.Lib.AppendStr
import Derived.Lib.Hide
namespace Go.Proofs.YtefdjdipbnnoaaaDoor
open Go Go.RowKit
set_option linter.unusedVariables false

def namesC : Array Value := #[.string ⟨#[]⟩, .string ⟨#[114, 97, 112, 105, 100]⟩, .string ⟨#[108, 105, 110, 101]⟩, .string ⟨#[97, 114, 99]⟩, .string ⟨#[112, 114, 111, 98, 101]⟩, .string ⟨#[116, 104, 114, 101, 97, 100]⟩, .string ⟨#[116, 97, 112]⟩, .string ⟨#[100, 119, 101, 108, 108]⟩, .string ⟨#[115, 112, 105, 110, 100, 108, 101]⟩, .string ⟨#[99, 111, 111, 108, 97, 110, 116]⟩, .string ⟨#[111, 117, 116, 112, 117, 116]⟩, .string ⟨#[116, 111, 111, 108]⟩, .string ⟨#[115, 116, 111, 112]⟩, .string ⟨#[111, 112, 116, 105, 111, 110, 97, 108]⟩, .string ⟨#[101, 110, 100]⟩]
theorem namesC_at (i : Nat) (h : i < 15) : namesC[i]? = some (.string (mkB (kname i))) := by
  match i, h with
  | 0, _ => rfl
  | 1, _ => rfl
  | 2, _ => rfl
  | 3, _ => rfl
  | 4, _ => rfl
  | 5, _ => rfl
  | 6, _ => rfl
  | 7, _ => rfl
  | 8, _ => rfl
  | 9, _ => rfl
  | 10, _ => rfl
  | 11, _ => rfl
  | 12, _ => rfl
  | 13, _ => rfl
  | 14, _ => rfl
  | n + 15, h => exact absurd h (by omega)
/-- The table of the names lies in memory. -/
def NamesIs (w : World) : Prop := w.var? Tryd.prog "cnc/canon.names" = some namesC
theorem gNames : Tryd.prog.globalNamed "cnc/canon.names" = some 0 := by kernel_rfl
theorem NamesIs.cell {w : World} (h : NamesIs w) (i : Nat) (hi : i < 15) : w.cell? ⟨0, i, none⟩ = some (.string (mkB (kname i))) := by
  unfold NamesIs World.var? at h
  rw [gNames] at h
  simp only [Option.bind_some] at h
  split at h
  · rename_i cs t fr e
    injection h with h
    subst h
    simp [World.cell?, e, namesC_at i hi]
  · cases h
structure Env (w : World) : Prop where
  names : NamesIs w
  pow : Lib.TabIs Tryd.prog w "internal/strconv.uint64pow10" .u64 Lib.pow10Tab
  low : 3 < w.heap.size
theorem gP : Tryd.prog.globalNamed "internal/strconv.uint64pow10" = some 1 := by kernel_rfl
theorem Env.below {B : Nat} {w w' : World} (h : Env w) (hb : Below B w w') (hB : 3 < B) : Env w' :=
  ⟨var?_below hb gNames (by omega) h.names, var?_below hb gP (by omega) h.pow, by have := hb.size; have := h.low; omega⟩
theorem appInt_run (B : Nat) (i : Int) (h2 : -9223372036854775808 ≤ i ∧ i ≤ 9223372036854775807) (v : Value) (l : List UInt8) (w : World) (hown : w.ownsRow B 5 1 v l.length (Lib.byteCells l)) (hBw : B ≤ w.heap.size) (hB : 3 < B) (hl : l.length ≤ 1000000) (hE : Env w) :
    Calls Tryd.prog 42 #[v, .int .i64 i, .int .i64 10] w fun e w' => ∃ v', e = .returned v' ∧ w'.ownsRow B 5 1 v' (l ++ Lib.itoa i).length (Lib.byteCells (l ++ Lib.itoa i)) ∧ Below B w w' ∧ ∀ g t cs, t ≠ 5 → Blk w g t cs → Blk w' g t cs := by
  refine (Tryd.strconv_AppendInt_10 B l.length i h2.1 h2.2 v (Lib.byteCells l) w hown hBw (by omega) ?_).mono ?_
  · exact fun w' h' => (hE.below h' hB).pow
  · rintro e w' ⟨v', rfl, hown', hb, hk⟩
    refine ⟨v', rfl, ?_, hb, fun g t cs ht hB => hk g _ hB (by simp) (fun c fz e => ht (by injection e))⟩
    rw [List.length_append, Lib.byteCells_append]
    exact hown'
theorem infoU8 : (Tryd.prog.info? 5).map (fun i => (i.zero, i.size, i.bytes)) = some (some (.int .u8 0), 1, 1) := by kernel_rfl
/-- append of one byte. -/
theorem go_byapp {ops : Array Oper} {rest : List Oper} {a : Act} {w : World} {Q : Exit → Act → World → Prop} {dst : Option Tmp} {ty0 : TypeId} {pos : String} {after : Array Edge} (x y : Operand) {base : Nat} {v : Value} (l : List UInt8) (b : UInt8) (g : Nat)
    (hx : a.eval x = v) (hown : w.ownsRow base 5 1 v l.length (Lib.byteCells l)) (hy : a.eval y = .slice (some ⟨g, 0, none⟩) 1 1) (hg : Blk w g 5 #[.int .u8 b.toNat]) (hn : l.length ≤ 1000000) (hb : base ≤ w.heap.size)
    (h : ∀ v' w', w'.ownsRow base 5 1 v' (l ++ [b]).length (Lib.byteCells (l ++ [b])) → w.grownBy w' v.ownBlock → wpList Tryd.prog ops Q rest (a.put dst v') w') : wpList Tryd.prog ops Q (⟨dst, .call { callee := .builtin .append, args := #[x, y], argTypes := #[64, 64] }, ty0, pos, after, none⟩ :: rest) a w := by
  obtain ⟨i0, hi, hz0, hz1, hz2⟩ := info_parts infoU8
  refine wpList_append_lies w rfl x y 64 rfl base 5 i0 (.int .u8 0) 1 1 Tryd.underlying64 hi hz0 hz1 hz2 (by kernel_rfl) (by decide) v l.length (Lib.byteCells l) hx hown ⟨g, 0, none⟩ 1 1 [.int .u8 b.toNat] hy rfl ?_ (by simp [Value.oneCell']) (by omega) (by unfold maxLen; omega) (by omega) hb w.heap.size rfl ?_
  · intro j u hu
    rw [Addr.add_mid, Nat.zero_add, hg.cell]
    simpa using hu
  · intro g' c' w' hown' hgrow _ _
    rw [show [Value.int .u8 b.toNat] = Lib.byteCells [b] from rfl, ← Lib.byteCells_append] at hown'
    have e : l.length + 1 = (l ++ [b]).length := by simp
    rw [e] at hown'
    have := h (.slice (some ⟨g', 0, none⟩) (l ++ [b]).length c') w' hown' hgrow
    rw [← e] at this
    exact this
theorem strCells_mkB (s : List UInt8) : Lib.strCells (mkB s) = Lib.byteCells s := by
  unfold Lib.strCells Lib.byteCells
  simp [mkB]
/-- append of the bytes of a string. -/
theorem go_strapp {ops : Array Oper} {rest : List Oper} {a : Act} {w : World} {Q : Exit → Act → World → Prop} {dst : Option Tmp} {ty0 : TypeId} {pos : String} {after : Array Edge} (x y : Operand) {base : Nat} {v : Value} (l s : List UInt8)
    (hx : a.eval x = v) (hown : w.ownsRow base 5 1 v l.length (Lib.byteCells l)) (hy : a.eval y = .string (mkB s)) (hn : l.length ≤ 1000000) (hs : s.length ≤ 1000) (hb : base ≤ w.heap.size)
    (h : ∀ v' w', w'.ownsRow base 5 1 v' (l ++ s).length (Lib.byteCells (l ++ s)) → w.grownBy w' v.ownBlock → wpList Tryd.prog ops Q rest (a.put dst v') w') : wpList Tryd.prog ops Q (⟨dst, .call { callee := .builtin .append, args := #[x, y], argTypes := #[64, 9] }, ty0, pos, after, none⟩ :: rest) a w := by
  obtain ⟨i0, hi, hz0, hz1, hz2⟩ := info_parts infoU8
  have hsz : (mkB s).size = s.length := mkB_size s
  refine Lib.wpList_append_own_string w rfl x y 64 9 rfl base 5 i0 Tryd.underlying64 Tryd.underlying9 hi hz0 hz1 hz2 v l.length (Lib.byteCells l) hx hown (mkB s) hy (by unfold maxLen; omega) (by omega) hb ?_
  intro v' w' hown' hgrow _
  refine h v' w' ?_ hgrow
  rw [List.length_append, Lib.byteCells_append, ← hsz, ← strCells_mkB]
  exact hown'
/-- The string of the bytes that are the call's own. -/
theorem conv_own {W : World} {base : Nat} {v : Value} {l : List UInt8} (h : W.ownsRow base 5 1 v l.length (Lib.byteCells l)) : (convert 64 9 v).run Tryd.prog W = .ok (.string (mkB l)) W := by
  rcases h.2 with ⟨rfl, e⟩ | ⟨g, cap, cur, rfl, hb, _⟩
  · obtain rfl := List.length_eq_zero_iff.1 e
    kernel_rfl
  · refine run_convert_bytes_back W 64 9 5 ⟨g, 0, none⟩ cap l Tryd.underlying64 Tryd.underlying5 Tryd.underlying9 fun j hj => ?_
    rw [Addr.add_mid, Nat.zero_add, h.cellAt j (by omega)]
    unfold Lib.byteCells
    rw [List.getElem?_map, List.getElem?_eq_getElem hj]
    rfl
end Go.Proofs.YtefdjdipbnnoaaaDoor
