/-
  cncref33.name: the name of a kind. Kinds 1 to 13.
-/
import Derived.Test.YtkafmpgihhnhdaaDoorEnv33
namespace Go.Proofs.YtkafmpgihhnhdaaDoor
open Go Go.RowKit
set_option linter.unusedVariables false

def rnamesC : Array Value := #[.string ⟨#[]⟩, .string ⟨#[102, 101, 101, 100]⟩, .string ⟨#[114, 97, 112, 105, 100]⟩, .string ⟨#[104, 111, 108, 100]⟩, .string ⟨#[114, 101, 115, 117, 109, 101]⟩, .string ⟨#[115, 105, 110, 103, 108, 101]⟩, .string ⟨#[111, 112, 116, 105, 111, 110, 97, 108]⟩, .string ⟨#[114, 101, 116, 114, 97, 99, 101]⟩, .string ⟨#[115, 119, 105, 116, 99, 104]⟩, .string ⟨#[115, 116, 111, 112]⟩, .string ⟨#[112, 111, 119, 101, 114]⟩, .string ⟨#[114, 101, 115, 101, 116]⟩, .string ⟨#[112, 114, 111, 98, 101]⟩, .string ⟨#[108, 97, 103]⟩]
theorem infoStr : (Tryd.prog.info? 9).map (fun i => (i.zero, i.size, i.bytes)) = some (some (.string ⟨#[]⟩), 1, 16) := by kernel_rfl
theorem rnames_at (i : Nat) (h : i < 13) : rnamesC[i + 1]? = some (.string (nmE i)) := by
  have : ∀ j : Fin 13, rnamesC[j.val + 1]? = some (.string (nmE j.val)) := by
    intro j
    match j with
    | ⟨0, _⟩ => rfl
    | ⟨1, _⟩ => rfl
    | ⟨2, _⟩ => rfl
    | ⟨3, _⟩ => rfl
    | ⟨4, _⟩ => rfl
    | ⟨5, _⟩ => rfl
    | ⟨6, _⟩ => rfl
    | ⟨7, _⟩ => rfl
    | ⟨8, _⟩ => rfl
    | ⟨9, _⟩ => rfl
    | ⟨10, _⟩ => rfl
    | ⟨11, _⟩ => rfl
    | ⟨12, _⟩ => rfl
  exact this ⟨i, h⟩
theorem go_names {ops : Array Oper} {rest : List Oper} {a : Act} {w : World} {Q : Exit → Act → World → Prop} {dst : Option Tmp} {ty0 : TypeId} {pos : String} {after : Array Edge} (parts : Array (Nat × Operand))
    (hp : (parts.map fun (i, x) => (i, a.eval x)).toList = (rnamesC.toList.zipIdx.map fun p => (p.2, p.1)))
    (h : wpList Tryd.prog ops Q rest (a.put dst (.slice (some ⟨w.heap.size, 0, none⟩) 14 14)) (w.alloc (.cells rnamesC 9))) : wpList Tryd.prog ops Q (⟨dst, .buildSlice 64 14 parts, ty0, pos, after, none⟩ :: rest) a w := by
  obtain ⟨i0, hi, hz0, hz1, hz2⟩ := info_parts infoStr
  refine go_buildSlice 64 9 14 _ rnamesC i0 _ Tryd.underlying64 hi hz0 (by rw [hz1]; decide) (by rw [hz1]; decide) ?_ h
  rw [hz1, hp]
  with_unfolding_all rfl
set_option maxRecDepth 100000 in
theorem rname_any (i : Nat) (hi : i < 13) (w : World) : Calls Tryd.prog 29 #[.int .i64 ((i : Int) + 1)] w fun e w' => e = .returned (.string (nmE i)) ∧ Below w.heap.size w w' := by
  have hB := Blk.new w 9 rnamesC
  have c0 : (w.alloc (.cells rnamesC 9)).cell? ⟨w.heap.size, i + 1, none⟩ = some (.string (nmE i)) := (hB.cell (i + 1)).trans (rnames_at i hi)
  have BEL := Lib.hid ((Below.refl w.heap.size w).alloc (Nat.le_refl _) (.cells rnamesC 9))
  have j0 : (0 : Int) ≤ (i : Int) + 1 := by omega
  have j1 : (i : Int) + 1 < 14 := by omega
  have j2 : ((i : Int) + 1).toNat = i + 1 := by omega
  clear hB
  go_enter Tryd.func29, Tryd.ntmps29
  go_wp2_with ((with_reducible refine go_names _ (by with_unfolding_all rfl) ?_))
  go_ret
  exact ⟨rfl, BEL.out⟩
end Go.Proofs.YtkafmpgihhnhdaaDoor
