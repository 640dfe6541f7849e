/-
  The variables that are read: strconv's powers of ten, bytealg.MaxLen, strconv's two errors. No condition.
-/
import Derived.Test.YtlpmbjgimllmgaaDoorPlan16
import Derived.Test.YtlpmbjgimllmgaaDoorShelf16
import Derived.Test.YtlpmbjgimllmgaaDoorHeldL
import Derived.Test.YtlpmbjgimllmgaaDoorBuild
import Derived.Lib.AppendIntMem
import Derived.Lib.Hide
namespace Go.Proofs.YtlpmbjgimllmgaaDoor
open Go Go.RowKit
set_option linter.unusedVariables false

theorem neB {c : Int} {n : Int} (h : c ≠ n) : (c == n) = false := by simpa using h
theorem eqB {c : Int} {n : Int} (h : c = n) : (c == n) = true := by simpa using h
theorem ix_run (s : ByteArray) (i : Nat) (h : i < s.size) (W : World) : (Instr.index 9 (.string s) (.int .i64 i)).run Tryd.prog W = .ok (.int .u8 (byt s i)) W := by
  rw [run_index_string W 9 s .i64 i Tryd.underlying9, dif_pos ⟨by omega, by omega⟩, byt_at s i h]
  rfl
theorem ix0_run (s : ByteArray) (h : 0 < s.size) (W : World) : (Instr.index 9 (.string s) (.int .i64 0)).run Tryd.prog W = .ok (.int .u8 (byt s 0)) W := ix_run s 0 h W
structure Env (w : World) : Prop where
  max : ∃ m, w.cell? ⟨0, 0, none⟩ = some (.int .i64 m)
  pow : Lib.TabIs Tryd.prog w "internal/strconv.uint64pow10" .u64 Lib.pow10Tab
  es : ∃ ev, w.cell? ⟨2, 0, none⟩ = some ev ∧ (ev = .nilIface ∨ ∃ te pe, ev = .iface te pe)
  er : ∃ ev, w.cell? ⟨3, 0, none⟩ = some ev ∧ (ev = .nilIface ∨ ∃ te pe, ev = .iface te pe)
  low : 4 ≤ w.heap.size
theorem gP : Tryd.prog.globalNamed "internal/strconv.uint64pow10" = some 1 := by kernel_rfl
theorem Env.below {B : Nat} {w w' : World} (h : Env w) (hb : Below B w w') (hB : 4 ≤ B) : Env w' :=
  ⟨by
    obtain ⟨m, hm⟩ := h.max
    exact ⟨m, (hb.cell (p := ⟨0, 0, none⟩) (by show 0 < B; omega)).trans hm⟩, var?_below hb gP (by omega) h.pow, by
    obtain ⟨m, hm, he⟩ := h.es
    exact ⟨m, (hb.cell (p := ⟨2, 0, none⟩) (by show 2 < B; omega)).trans hm, he⟩, by
    obtain ⟨m, hm, he⟩ := h.er
    exact ⟨m, (hb.cell (p := ⟨3, 0, none⟩) (by show 3 < B; omega)).trans hm, he⟩, by have := hb.size; have := h.low; omega⟩
theorem cut_run (s : ByteArray) (hs : s.size ≤ 1000000) (w : World) (hE : Env w) : Calls Tryd.prog 34 #[.string s, .string ⟨#[10]⟩] w fun e w' =>
    (∃ A B, cutL 10 (bl s) = some (A, B) ∧ e = .returned (.tuple #[.string (mkB A), .string (mkB B), .bool true]) ∨ cutL 10 (bl s) = none ∧ e = .returned (.tuple #[.string s, .string ⟨#[]⟩, .bool false])) ∧ Below w.heap.size w w' := by
  obtain ⟨m, hm⟩ := hE.max
  refine (Tryd.strings_Cut s ⟨#[10]⟩ m w (by omega) hm).mono ?_
  rintro e w' ⟨rfl, q, rfl⟩
  refine ⟨?_, below_drewN (Below.refl _ _) q⟩
  have h1 := cut_one 10 (bl s)
  rw [show (⟨#[10]⟩ : ByteArray).data.toList = [10] from rfl, show s.data.toList = bl s from rfl, h1]
  cases hc : cutL 10 (bl s) with
  | none =>
    refine ⟨[], [], .inr ⟨rfl, ?_⟩⟩
    simp only
    rw [show (⟨(bl s).toArray⟩ : ByteArray) = s from mkB_bl s]
  | some p => exact ⟨p.1, p.2, .inl ⟨rfl, rfl⟩⟩
theorem split_run (c : UInt8) (s : ByteArray) (hs : s.size ≤ 1000000) (w : World) (hE : Env w) : Calls Tryd.prog 43 #[.string s, .string ⟨#[c]⟩] w fun e w' =>
    e = .returned (.slice (some ⟨w.heap.size, 0, none⟩) (splitL c (bl s)).length (splitL c (bl s)).length) ∧ w' = w.alloc (.cells (((splitL c (bl s)).map mkB).map Value.string).toArray 9) := by
  obtain ⟨m, hm⟩ := hE.max
  have h := Tryd.strings_Split s ⟨#[c]⟩ m w (by omega) hm (Nat.le_refl 1)
  have hl := Lib.splitB_all ⟨#[c]⟩ (Nat.le_refl 1) 0 (Lib.countB s ⟨#[c]⟩) s rfl
  rw [splitB_one] at h hl
  rw [← hl, List.length_map] at h
  exact h
theorem itoa_run (n : Int) (h : n.natAbs < 10 ^ 19) (h2 : -9223372036854775808 ≤ n ∧ n ≤ 9223372036854775807) (w : World) (hE : Env w) : Calls Tryd.prog 49 #[.int .i64 n] w fun e w' => e = .returned (.string (mkB (Lib.itoa n))) ∧ Below w.heap.size w w' := by
  refine (Tryd.strconv_Itoa n h2.1 h2.2 w hE.pow).mono ?_
  rintro e w' ⟨rfl, k, os, rfl⟩
  exact ⟨rfl, Lib.below_grow _ w (Nat.le_refl _) k os⟩
theorem appInt_run (B : Nat) (i : Int) (h2 : -9223372036854775808 ≤ i ∧ i ≤ 9223372036854775807) (v : Value) (l : List UInt8) (w : World) (hown : w.ownsRow B 5 1 v l.length (Lib.byteCells l)) (hBw : B ≤ w.heap.size) (hB : 4 ≤ B) (hl : l.length ≤ 1000000) (hE : Env w) :
    Calls Tryd.prog 32 #[v, .int .i64 i, .int .i64 10] w fun e w' => ∃ v', e = .returned v' ∧ w'.ownsRow B 5 1 v' (l ++ Lib.itoa i).length (Lib.byteCells (l ++ Lib.itoa i)) ∧ Below B w w' := by
  refine (Tryd.strconv_AppendInt_10 B l.length i h2.1 h2.2 v (Lib.byteCells l) w hown hBw (by omega) ?_).mono ?_
  · exact fun w' h' => (hE.below h' hB).pow
  · rintro e w' ⟨v', rfl, hown', hb, _⟩
    refine ⟨v', rfl, ?_, hb⟩
    rw [List.length_append, Lib.byteCells_append]
    exact hown'
end Go.Proofs.YtlpmbjgimllmgaaDoor
