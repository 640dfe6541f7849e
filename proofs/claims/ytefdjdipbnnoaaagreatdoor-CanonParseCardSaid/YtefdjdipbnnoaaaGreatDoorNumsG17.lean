/-
  canon.numbers: the places of the numbers of an item in memory.
-/
import Derived.Test.YtefdjdipbnnoaaaGreatDoorNumsF17
namespace Go.Proofs.YtefdjdipbnnoaaaGreatDoor
open Go Go.RowKit
set_option linter.unusedVariables false
set_option linter.unusedSimpArgs false

section
variable {P : Program} {a : Act} {w : World} {K : Act → World → Prop} {Q : Exit → Act → World → Prop} {dst : Option Tmp} {ty0 : TypeId} {pos : String} {after : Array Edge} {gd : Option (Nat × Bool)}
theorem wp_bslice {o : Oper} (t e : TypeId) (len : Nat) (parts : Array (Nat × Operand)) (ho : o.op = .buildSlice t len parts) (cells : Array Value) (ie : TypeInfo) (z : Value)
    (hu : P.underlying t = some (.slice e)) (hie : P.info? e = some ie) (hz : ie.zero = some z) (hsmall : ¬ len * ie.size > 2 ^ 24) (hpos : ¬ len * ie.size = 0)
    (hf : Instr.fill (fun i => some (i * ie.size, ie.size)) ((Array.range (len * ie.size)).map (z.cells[· % z.cells.size]!)) (parts.map fun (i, x) => (i, a.eval x)).toList = some cells)
    (h : K (a.put o.dst (.slice (some ⟨w.heap.size, 0, none⟩) len len)) (w.alloc (.cells cells e))) : o.wp P a w K Q := by
  have hr := run_buildSlice w t e len _ cells ie z hu hie hz hsmall hpos hf
  unfold Oper.wp execOp
  simp only [ho, Sem.run_bind, hr, Result.andThen_ok, Sem.run_pure]
  exact h
theorem wo_buildSlice (t e : TypeId) (len : Nat) (parts : Array (Nat × Operand)) (cells : Array Value) (ie : TypeInfo) (z : Value)
    (hu : P.underlying t = some (.slice e)) (hie : P.info? e = some ie) (hz : ie.zero = some z) (hsmall : ¬ len * ie.size > 2 ^ 24) (hpos : ¬ len * ie.size = 0)
    (hf : Instr.fill (fun i => some (i * ie.size, ie.size)) ((Array.range (len * ie.size)).map (z.cells[· % z.cells.size]!)) (parts.map fun (i, x) => (i, a.eval x)).toList = some cells)
    (h : K (a.put dst (.slice (some ⟨w.heap.size, 0, none⟩) len len)) (w.alloc (.cells cells e))) : Oper.wp P ⟨dst, .buildSlice t len parts, ty0, pos, after, gd⟩ a w K Q :=
  wp_bslice (o := ⟨dst, .buildSlice t len parts, ty0, pos, after, gd⟩) t e len parts rfl cells ie z hu hie hz hsmall hpos hf h
end
section
variable {a : Act} {w : World} {K : Act → World → Prop} {Q : Exit → Act → World → Prop} {dst : Option Tmp} {ty0 : TypeId} {pos : String} {after : Array Edge} {gd : Option (Nat × Bool)}
set_option maxRecDepth 100000 in
theorem wo_nm1 (x : Operand) (u v : Value) (hx : a.eval x = .agg #[u, v]) (h : K (a.put dst (.slice (some ⟨w.heap.size, 0, none⟩) 1 1)) (w.alloc (.cells #[u, v] 78))) : Oper.wp Tryz.prog ⟨dst, .buildSlice 72 1 #[(0, x)], ty0, pos, after, gd⟩ a w K Q := by
  obtain ⟨i0, hi, hz0, hz1, hz2⟩ := info_parts infoNm
  refine wo_buildSlice 72 78 1 _ #[u, v] i0 _ Tryz.underlying72 hi hz0 (by rw [hz1]; decide) (by rw [hz1]; decide) ?_ h
  rw [hz1]
  simp only [List.map_toArray, List.map_cons, List.map_nil, hx]
  exact nm_fill _ _
theorem infoPI : (Tryz.prog.info? 75).map (fun i => (i.zero, i.size, i.bytes)) = some (some (.pointer none), 1, 8) := by kernel_rfl
theorem wo_nmapp (x y : Operand) {base n : Nat} {v : Value} (xs : List Value) (u1 u2 : Value) (g : Nat)
    (hx : a.eval x = v) (hown : w.ownsRow base 78 2 v n xs) (hy : a.eval y = .slice (some ⟨g, 0, none⟩) 1 1) (hg : Blk w g 78 #[u1, u2]) (h1 : u1.oneCell' = true) (h2 : u2.oneCell' = true) (hn : n ≤ 1000000) (hb : base ≤ w.heap.size)
    (h : ∀ g' c' w', w'.ownsRow base 78 2 (.slice (some ⟨g', 0, none⟩) (n + 1) c') (n + 1) (xs ++ [u1, u2]) → w.grownBy w' v.ownBlock → K (a.put dst (.slice (some ⟨g', 0, none⟩) (n + 1) c')) w') : Oper.wp Tryz.prog ⟨dst, .call { callee := .builtin .append, args := #[x, y], argTypes := #[72, 72] }, ty0, pos, after, gd⟩ a w K Q := by
  obtain ⟨i0, hi, hz0, hz1, hz2⟩ := info_parts infoNm
  refine wp_append_lies w x y 72 rfl base 78 i0 (.agg #[.pointer none, .pointer none]) 2 16 Tryz.underlying72 hi hz0 hz1 hz2 (by kernel_rfl) (by decide) v n xs hx hown ⟨g, 0, none⟩ 1 1 [u1, u2] hy rfl ?_ ?_ (by omega) (by unfold maxLen; omega) (by omega) hb w.heap.size rfl ?_
  · intro j u hu
    rw [Addr.add_mid, Nat.zero_add, hg.cell]
    simpa using hu
  · intro u hu
    simp only [List.mem_cons, List.not_mem_nil, or_false] at hu
    rcases hu with rfl | rfl
    · exact h1
    · exact h2
  · intro g' c' w' hown' hgrow _ _
    exact h g' c' w' hown' hgrow
end
/-- What stands for a place of a flag. -/
def flagC (p : Addr) : List Value := [.pointer none, .pointer (some p)]
/-- The places of an item in block g. -/
def placesC (g : Nat) : List Value := (((((([] ++ [⟨g, 1, none⟩, ⟨g, 2, none⟩, ⟨g, 3, none⟩, ⟨g, 4, none⟩, ⟨g, 5, none⟩, ⟨g, 6, none⟩, ⟨g, 7, none⟩, ⟨g, 8, none⟩, ⟨g, 9, none⟩, ⟨g, 10, none⟩, ⟨g, 11, none⟩, ⟨g, 12, none⟩].flatMap ptrC) ++ flagC ⟨g, 13, none⟩) ++ [⟨g, 14, none⟩].flatMap ptrC) ++ flagC ⟨g, 15, none⟩) ++ [⟨g, 16, none⟩, ⟨g, 17, none⟩, ⟨g, 18, none⟩, ⟨g, 19, none⟩, ⟨g, 20, none⟩].flatMap ptrC) ++ flagC ⟨g, 21, none⟩)
set_option maxRecDepth 100000 in
set_option maxHeartbeats 40000000 in
theorem places_any (g : Nat) (i : It) (w : World) (hg : ItAt w g i) :
    Calls Tryz.prog 43 #[.pointer (some ⟨g, 0, none⟩)] w fun e w' => ∃ G c, e = .returned (.slice (some ⟨G, 0, none⟩) 21 c) ∧ w'.ownsRow w.heap.size 78 2 (.slice (some ⟨G, 0, none⟩) 21 c) 21 (placesC g) ∧ Below w.heap.size w w' := by
  have hlt := hg.lt
  clear hg
  go_enter Tryz.func43, Tryz.ntmps43
  go_wp2_with fail
  refine wp_told (fun W => ∃ v, Blk W w.heap.size 72 #[v] ∧ W.ownsRow (w.heap.size + 1) 78 2 v 0 [] ∧ Below w.heap.size w W) ⟨.slice none 0 0, Blk.new _ _ _, World.ownsRow_nil _ _ _ _, by (repeat (first | exact Below.refl _ _ | refine Below.drew ?_ | refine Below.alloc ?_ (by first | exact Nat.le_refl _ | (simp; done) | (simp; omega)) _ | refine Below.setCell ?_ (by first | exact Nat.le_refl _ | (simp; done) | (simp; omega)) _))⟩ ?_
  rintro W ⟨v, hO, hW, hB⟩
  have lO := hO.lt
  have hne : v.ownBlock ≠ some W.heap.size := fun e => by have := (hW.lt _ e).2; omega
  have hno : v.ownBlock ≠ some w.heap.size := fun e => by have := (hW.lt _ e).1; omega
  have HO := Lib.hid hO
  have HW := Lib.hid hW
  have HB := Lib.hid hB
  clear hO hW hB
  refine region_L (fun _ => True) [] (by kernel_rfl) ?_
  have hS0 : True := trivial
  refine take_P 0 (v := .func (.func 82) #[] #[.pointer (some ⟨w.heap.size, 0, none⟩)]) rfl (by kernel_rfl) (by kernel_rfl) (by kernel_rfl) (fun _ _ _ h => h) rfl (fun W' => by go_simp) ?_
  refine take_P 1 (v := .pointer (some ⟨g, 0, none⟩)) rfl (by kernel_rfl) (by kernel_rfl) (by kernel_rfl) (fun _ _ _ h => h) rfl (fun W' => by go_simp) ?_
  refine take_P 2 (v := .pointer (some ⟨g, 0, none⟩)) rfl (by kernel_rfl) (by kernel_rfl) (by kernel_rfl) (fun _ _ _ h => h) rfl (fun W' => by go_simp) ?_
  refine take_P 3 (v := .pointer (some ⟨g, 1, none⟩)) rfl (by kernel_rfl) (by kernel_rfl) (by kernel_rfl) (fun _ _ _ h => h) rfl (fun W' => by go_simp) ?_
  refine take_P 4 (v := .pointer (some ⟨g, 0, none⟩)) rfl (by kernel_rfl) (by kernel_rfl) (by kernel_rfl) (fun _ _ _ h => h) rfl (fun W' => by go_simp) ?_
  refine take_P 5 (v := .pointer (some ⟨g, 0, none⟩)) rfl (by kernel_rfl) (by kernel_rfl) (by kernel_rfl) (fun _ _ _ h => h) rfl (fun W' => by go_simp) ?_
  refine take_P 6 (v := .pointer (some ⟨g, 2, none⟩)) rfl (by kernel_rfl) (by kernel_rfl) (by kernel_rfl) (fun _ _ _ h => h) rfl (fun W' => by go_simp) ?_
  refine take_P 7 (v := .pointer (some ⟨g, 2, none⟩)) rfl (by kernel_rfl) (by kernel_rfl) (by kernel_rfl) (fun _ _ _ h => h) rfl (fun W' => by go_simp) ?_
  refine take_P 8 (v := .pointer (some ⟨g, 0, none⟩)) rfl (by kernel_rfl) (by kernel_rfl) (by kernel_rfl) (fun _ _ _ h => h) rfl (fun W' => by go_simp) ?_
  refine take_P 9 (v := .pointer (some ⟨g, 0, none⟩)) rfl (by kernel_rfl) (by kernel_rfl) (by kernel_rfl) (fun _ _ _ h => h) rfl (fun W' => by go_simp) ?_
  refine take_P 10 (v := .pointer (some ⟨g, 2, none⟩)) rfl (by kernel_rfl) (by kernel_rfl) (by kernel_rfl) (fun _ _ _ h => h) rfl (fun W' => by go_simp) ?_
  refine take_P 11 (v := .pointer (some ⟨g, 3, none⟩)) rfl (by kernel_rfl) (by kernel_rfl) (by kernel_rfl) (fun _ _ _ h => h) rfl (fun W' => by go_simp) ?_
  refine take_P 12 (v := .pointer (some ⟨g, 0, none⟩)) rfl (by kernel_rfl) (by kernel_rfl) (by kernel_rfl) (fun _ _ _ h => h) rfl (fun W' => by go_simp) ?_
  refine take_P 13 (v := .pointer (some ⟨g, 0, none⟩)) rfl (by kernel_rfl) (by kernel_rfl) (by kernel_rfl) (fun _ _ _ h => h) rfl (fun W' => by go_simp) ?_
  refine take_P 14 (v := .pointer (some ⟨g, 2, none⟩)) rfl (by kernel_rfl) (by kernel_rfl) (by kernel_rfl) (fun _ _ _ h => h) rfl (fun W' => by go_simp) ?_
  refine take_P 15 (v := .pointer (some ⟨g, 4, none⟩)) rfl (by kernel_rfl) (by kernel_rfl) (by kernel_rfl) (fun _ _ _ h => h) rfl (fun W' => by go_simp) ?_
  refine take_P 16 (v := .pointer (some ⟨g, 0, none⟩)) rfl (by kernel_rfl) (by kernel_rfl) (by kernel_rfl) (fun _ _ _ h => h) rfl (fun W' => by go_simp) ?_
  refine take_P 17 (v := .pointer (some ⟨g, 0, none⟩)) rfl (by kernel_rfl) (by kernel_rfl) (by kernel_rfl) (fun _ _ _ h => h) rfl (fun W' => by go_simp) ?_
  refine take_P 18 (v := .pointer (some ⟨g, 5, none⟩)) rfl (by kernel_rfl) (by kernel_rfl) (by kernel_rfl) (fun _ _ _ h => h) rfl (fun W' => by go_simp) ?_
  refine take_P 19 (v := .pointer (some ⟨g, 5, none⟩)) rfl (by kernel_rfl) (by kernel_rfl) (by kernel_rfl) (fun _ _ _ h => h) rfl (fun W' => by go_simp) ?_
  refine take_P 20 (v := .pointer (some ⟨g, 0, none⟩)) rfl (by kernel_rfl) (by kernel_rfl) (by kernel_rfl) (fun _ _ _ h => h) rfl (fun W' => by go_simp) ?_
  refine take_P 21 (v := .pointer (some ⟨g, 0, none⟩)) rfl (by kernel_rfl) (by kernel_rfl) (by kernel_rfl) (fun _ _ _ h => h) rfl (fun W' => by go_simp) ?_
  refine take_P 22 (v := .pointer (some ⟨g, 5, none⟩)) rfl (by kernel_rfl) (by kernel_rfl) (by kernel_rfl) (fun _ _ _ h => h) rfl (fun W' => by go_simp) ?_
  refine take_P 23 (v := .pointer (some ⟨g, 6, none⟩)) rfl (by kernel_rfl) (by kernel_rfl) (by kernel_rfl) (fun _ _ _ h => h) rfl (fun W' => by go_simp) ?_
  refine take_P 24 (v := .pointer (some ⟨g, 0, none⟩)) rfl (by kernel_rfl) (by kernel_rfl) (by kernel_rfl) (fun _ _ _ h => h) rfl (fun W' => by go_simp) ?_
  refine take_P 25 (v := .pointer (some ⟨g, 0, none⟩)) rfl (by kernel_rfl) (by kernel_rfl) (by kernel_rfl) (fun _ _ _ h => h) rfl (fun W' => by go_simp) ?_
  refine take_P 26 (v := .pointer (some ⟨g, 5, none⟩)) rfl (by kernel_rfl) (by kernel_rfl) (by kernel_rfl) (fun _ _ _ h => h) rfl (fun W' => by go_simp) ?_
  refine take_P 27 (v := .pointer (some ⟨g, 7, none⟩)) rfl (by kernel_rfl) (by kernel_rfl) (by kernel_rfl) (fun _ _ _ h => h) rfl (fun W' => by go_simp) ?_
  refine take_P 28 (v := .pointer (some ⟨g, 0, none⟩)) rfl (by kernel_rfl) (by kernel_rfl) (by kernel_rfl) (fun _ _ _ h => h) rfl (fun W' => by go_simp) ?_
  refine take_P 29 (v := .pointer (some ⟨g, 0, none⟩)) rfl (by kernel_rfl) (by kernel_rfl) (by kernel_rfl) (fun _ _ _ h => h) rfl (fun W' => by go_simp) ?_
  refine take_P 30 (v := .pointer (some ⟨g, 8, none⟩)) rfl (by kernel_rfl) (by kernel_rfl) (by kernel_rfl) (fun _ _ _ h => h) rfl (fun W' => by go_simp) ?_
  refine take_P 31 (v := .pointer (some ⟨g, 0, none⟩)) rfl (by kernel_rfl) (by kernel_rfl) (by kernel_rfl) (fun _ _ _ h => h) rfl (fun W' => by go_simp) ?_
  refine take_P 32 (v := .pointer (some ⟨g, 0, none⟩)) rfl (by kernel_rfl) (by kernel_rfl) (by kernel_rfl) (fun _ _ _ h => h) rfl (fun W' => by go_simp) ?_
  refine take_P 33 (v := .pointer (some ⟨g, 9, none⟩)) rfl (by kernel_rfl) (by kernel_rfl) (by kernel_rfl) (fun _ _ _ h => h) rfl (fun W' => by go_simp) ?_
  refine take_P 34 (v := .pointer (some ⟨g, 9, none⟩)) rfl (by kernel_rfl) (by kernel_rfl) (by kernel_rfl) (fun _ _ _ h => h) rfl (fun W' => by go_simp) ?_
  refine take_P 35 (v := .pointer (some ⟨g, 0, none⟩)) rfl (by kernel_rfl) (by kernel_rfl) (by kernel_rfl) (fun _ _ _ h => h) rfl (fun W' => by go_simp) ?_
  refine take_P 36 (v := .pointer (some ⟨g, 0, none⟩)) rfl (by kernel_rfl) (by kernel_rfl) (by kernel_rfl) (fun _ _ _ h => h) rfl (fun W' => by go_simp) ?_
  refine take_P 37 (v := .pointer (some ⟨g, 9, none⟩)) rfl (by kernel_rfl) (by kernel_rfl) (by kernel_rfl) (fun _ _ _ h => h) rfl (fun W' => by go_simp) ?_
  refine take_P 38 (v := .pointer (some ⟨g, 10, none⟩)) rfl (by kernel_rfl) (by kernel_rfl) (by kernel_rfl) (fun _ _ _ h => h) rfl (fun W' => by go_simp) ?_
  refine take_P 39 (v := .pointer (some ⟨g, 0, none⟩)) rfl (by kernel_rfl) (by kernel_rfl) (by kernel_rfl) (fun _ _ _ h => h) rfl (fun W' => by go_simp) ?_
  refine take_P 40 (v := .pointer (some ⟨g, 0, none⟩)) rfl (by kernel_rfl) (by kernel_rfl) (by kernel_rfl) (fun _ _ _ h => h) rfl (fun W' => by go_simp) ?_
  refine take_P 41 (v := .pointer (some ⟨g, 9, none⟩)) rfl (by kernel_rfl) (by kernel_rfl) (by kernel_rfl) (fun _ _ _ h => h) rfl (fun W' => by go_simp) ?_
  refine take_P 42 (v := .pointer (some ⟨g, 11, none⟩)) rfl (by kernel_rfl) (by kernel_rfl) (by kernel_rfl) (fun _ _ _ h => h) rfl (fun W' => by go_simp) ?_
  refine take_P 43 (v := .pointer (some ⟨g, 0, none⟩)) rfl (by kernel_rfl) (by kernel_rfl) (by kernel_rfl) (fun _ _ _ h => h) rfl (fun W' => by go_simp) ?_
  refine take_P 44 (v := .pointer (some ⟨g, 0, none⟩)) rfl (by kernel_rfl) (by kernel_rfl) (by kernel_rfl) (fun _ _ _ h => h) rfl (fun W' => by go_simp) ?_
  refine take_P 45 (v := .pointer (some ⟨g, 12, none⟩)) rfl (by kernel_rfl) (by kernel_rfl) (by kernel_rfl) (fun _ _ _ h => h) rfl (fun W' => by go_simp) ?_
  refine one_L 46 (by kernel_rfl) rfl rfl fun K46 hK46 => ?_
  have HK46 := Lib.hid hK46
  clear hK46
  obtain ⟨ip, hip, hp0, hp1, hp2⟩ := info_parts infoPI
  refine wo_buildSlice 114 75 12 _ #[.pointer (some ⟨g, 1, none⟩), .pointer (some ⟨g, 2, none⟩), .pointer (some ⟨g, 3, none⟩), .pointer (some ⟨g, 4, none⟩), .pointer (some ⟨g, 5, none⟩), .pointer (some ⟨g, 6, none⟩), .pointer (some ⟨g, 7, none⟩), .pointer (some ⟨g, 8, none⟩), .pointer (some ⟨g, 9, none⟩), .pointer (some ⟨g, 10, none⟩), .pointer (some ⟨g, 11, none⟩), .pointer (some ⟨g, 12, none⟩)] ip _ Tryz.underlying114 hip hp0 (by rw [hp1]; decide) (by rw [hp1]; decide) (by rw [hp1]; with_unfolding_all kernel_rfl) ?_
  refine HK46.out _ _ (fun _ _ => trivial) ?_
  refine one_L 47 (by kernel_rfl) rfl rfl fun K47 hK47 => ?_
  have HK47 := Lib.hid hK47
  clear hK47
  go_simp
  refine (add_any w.heap.size W.heap.size 0 v [] [⟨g, 1, none⟩, ⟨g, 2, none⟩, ⟨g, 3, none⟩, ⟨g, 4, none⟩, ⟨g, 5, none⟩, ⟨g, 6, none⟩, ⟨g, 7, none⟩, ⟨g, 8, none⟩, ⟨g, 9, none⟩, ⟨g, 10, none⟩, ⟨g, 11, none⟩, ⟨g, 12, none⟩] _ (HO.out.drew.alloc _) (show Blk _ W.heap.size 75 #[.pointer (some ⟨g, 1, none⟩), .pointer (some ⟨g, 2, none⟩), .pointer (some ⟨g, 3, none⟩), .pointer (some ⟨g, 4, none⟩), .pointer (some ⟨g, 5, none⟩), .pointer (some ⟨g, 6, none⟩), .pointer (some ⟨g, 7, none⟩), .pointer (some ⟨g, 8, none⟩), .pointer (some ⟨g, 9, none⟩), .pointer (some ⟨g, 10, none⟩), .pointer (some ⟨g, 11, none⟩), .pointer (some ⟨g, 12, none⟩)] from Blk.new W.drew _ _) (World.ownsRow.alloc HW.out.drew _) hne lO (by omega) (by simp)).mono ?_
  rintro e W2 ⟨rfl, v2, hO2, hW2, hB2⟩
  have BB : Below w.heap.size w W2 := ((HB.out.drew).alloc (Nat.le_of_lt lO) _).trans hB2
  clear hB2
  refine HK47.out _ _ (fun _ _ => trivial) ?_
  refine done_L (by kernel_rfl) ?_ _
  clear HK46 HK47 hS0 HO HW HB
  refine on_told (fun W => ∃ v, Blk W w.heap.size 72 #[v] ∧ W.ownsRow (w.heap.size + 1) 78 2 v 12 ([] ++ [⟨g, 1, none⟩, ⟨g, 2, none⟩, ⟨g, 3, none⟩, ⟨g, 4, none⟩, ⟨g, 5, none⟩, ⟨g, 6, none⟩, ⟨g, 7, none⟩, ⟨g, 8, none⟩, ⟨g, 9, none⟩, ⟨g, 10, none⟩, ⟨g, 11, none⟩, ⟨g, 12, none⟩].flatMap ptrC) ∧ Below w.heap.size w W) ⟨v2, hO2, hW2, BB⟩ ?_
  rintro W ⟨v, hO, hW, hB⟩
  have lO := hO.lt
  have hne : v.ownBlock ≠ some W.heap.size := fun e => by have := (hW.lt _ e).2; omega
  have hno : v.ownBlock ≠ some w.heap.size := fun e => by have := (hW.lt _ e).1; omega
  have HO := Lib.hid hO
  have HW := Lib.hid hW
  have HB := Lib.hid hB
  clear hO hW hB
  clear hO2 hW2 BB
  go_simp
  go_wp2_with fail
  refine region_L (fun W => W.cell? ⟨w.heap.size, 0, none⟩ = some v) [7] (by kernel_rfl) ?_
  have hS0 : W.drew.cell? ⟨w.heap.size, 0, none⟩ = some v := HO.out.cell' 0 rfl
  refine take_L 0 (v := v) rfl (by kernel_rfl) (by kernel_rfl) (by kernel_rfl) (by kernel_rfl) (fun _ _ _ h => h) rfl (fun W' hW' => by go_simp) hS0 ?_
  refine take_P 1 (v := .pointer (some ⟨g, 0, none⟩)) rfl (by kernel_rfl) (by kernel_rfl) (by kernel_rfl) (fun _ _ _ h => h) rfl (fun W' => by go_simp) ?_
  refine take_P 2 (v := .pointer (some ⟨g, 0, none⟩)) rfl (by kernel_rfl) (by kernel_rfl) (by kernel_rfl) (fun _ _ _ h => h) rfl (fun W' => by go_simp) ?_
  refine take_P 3 (v := .pointer (some ⟨g, 13, none⟩)) rfl (by kernel_rfl) (by kernel_rfl) (by kernel_rfl) (fun _ _ _ h => h) rfl (fun W' => by go_simp) ?_
  refine take_P 4 (v := .agg #[.pointer none, .pointer (some ⟨g, 13, none⟩)]) rfl (by kernel_rfl) (by kernel_rfl) (by kernel_rfl) (fun _ _ _ h => h) rfl (fun W' => by go_simp) ?_
  refine one_L 5 (by kernel_rfl) rfl rfl fun K5 hK5 => ?_
  have HK5 := Lib.hid hK5
  clear hK5
  refine wo_nm1 (.tmp 58) (.pointer none) (.pointer (some ⟨g, 13, none⟩)) (by with_unfolding_all rfl) ?_
  have OA := HO.out.drew.alloc (.cells #[.pointer none, .pointer (some ⟨g, 13, none⟩)] 78)
  refine HK5.out _ _ (fun _ _ => OA.cell' 0 rfl) ?_
  refine one_L 6 (by kernel_rfl) rfl rfl fun K6 hK6 => ?_
  have HK6 := Lib.hid hK6
  clear hK6
  refine wo_nmapp (.tmp 54) (.tmp 59) ([] ++ [⟨g, 1, none⟩, ⟨g, 2, none⟩, ⟨g, 3, none⟩, ⟨g, 4, none⟩, ⟨g, 5, none⟩, ⟨g, 6, none⟩, ⟨g, 7, none⟩, ⟨g, 8, none⟩, ⟨g, 9, none⟩, ⟨g, 10, none⟩, ⟨g, 11, none⟩, ⟨g, 12, none⟩].flatMap ptrC) (.pointer none) (.pointer (some ⟨g, 13, none⟩)) W.heap.size (by with_unfolding_all rfl) (World.ownsRow.alloc HW.out.drew _) (by with_unfolding_all rfl) (Blk.new W.drew _ _) rfl rfl (by omega) (by show _ ≤ (W.drew.alloc _).heap.size; simp; omega) ?_
  intro g' c' wA hownA hgrow
  have OB := OA.grown hgrow (fun e => hno e.symm)
  have BA : Below w.heap.size w wA := (HB.out.drew.alloc (Nat.le_of_lt lO) (.cells #[.pointer none, .pointer (some ⟨g, 13, none⟩)] 78)).trans (below_of_grown hgrow (by simp; omega) (fun b e => by have := (HW.out.lt b e).1; omega))
  clear hgrow
  refine HK6.out _ _ (fun _ _ => OB.cell' 0 rfl) ?_
  have fO := OB.frozen 0
  have rO := OB.cell' 0 rfl
  refine one_L 7 (by kernel_rfl) rfl rfl fun K7 hK7 => ?_
  have HK7 := Lib.hid hK7
  clear hK7
  go_simp
  refine HK7.out _ _ (fun h => absurd h (by decide)) ?_
  refine done_L (by kernel_rfl) ?_ _
  clear HK5 HK6 HK7 hS0 HO HW HB OA
  clear fO rO
  refine on_told (fun W => ∃ v, Blk W w.heap.size 72 #[v] ∧ W.ownsRow (w.heap.size + 1) 78 2 v 13 (([] ++ [⟨g, 1, none⟩, ⟨g, 2, none⟩, ⟨g, 3, none⟩, ⟨g, 4, none⟩, ⟨g, 5, none⟩, ⟨g, 6, none⟩, ⟨g, 7, none⟩, ⟨g, 8, none⟩, ⟨g, 9, none⟩, ⟨g, 10, none⟩, ⟨g, 11, none⟩, ⟨g, 12, none⟩].flatMap ptrC) ++ flagC ⟨g, 13, none⟩) ∧ Below w.heap.size w W) ⟨.slice (some ⟨g', 0, none⟩) 13 c', OB.put 0 _, own_grown hownA (grown_setCell (w := wA) (p := ⟨w.heap.size, 0, none⟩) (grown_refl wA (some w.heap.size)) (.inl rfl) (.slice (some ⟨g', 0, none⟩) 13 c')) (by intro b hb; have := Option.some.inj hb; omega), BA.setCell (Nat.le_refl _) _⟩ ?_
  rintro W ⟨v, hO, hW, hB⟩
  have lO := hO.lt
  have hne : v.ownBlock ≠ some W.heap.size := fun e => by have := (hW.lt _ e).2; omega
  have hno : v.ownBlock ≠ some w.heap.size := fun e => by have := (hW.lt _ e).1; omega
  have HO := Lib.hid hO
  have HW := Lib.hid hW
  have HB := Lib.hid hB
  clear hO hW hB
  clear hownA BA OB
  go_simp
  go_wp2_with fail
  refine (add_any w.heap.size W.heap.size 13 v (([] ++ [⟨g, 1, none⟩, ⟨g, 2, none⟩, ⟨g, 3, none⟩, ⟨g, 4, none⟩, ⟨g, 5, none⟩, ⟨g, 6, none⟩, ⟨g, 7, none⟩, ⟨g, 8, none⟩, ⟨g, 9, none⟩, ⟨g, 10, none⟩, ⟨g, 11, none⟩, ⟨g, 12, none⟩].flatMap ptrC) ++ flagC ⟨g, 13, none⟩) [⟨g, 14, none⟩] _ (HO.out.alloc _) (show Blk _ W.heap.size 75 #[.pointer (some ⟨g, 14, none⟩)] from Blk.new W _ _) (World.ownsRow.alloc HW.out _) hne lO (by omega) (by simp)).mono ?_
  rintro e W2 ⟨rfl, v2, hO2, hW2, hB2⟩
  have BB : Below w.heap.size w W2 := ((HB.out).alloc (Nat.le_of_lt lO) _).trans hB2
  clear hB2
  clear HO HW HB
  refine on_told (fun W => ∃ v, Blk W w.heap.size 72 #[v] ∧ W.ownsRow (w.heap.size + 1) 78 2 v 14 ((([] ++ [⟨g, 1, none⟩, ⟨g, 2, none⟩, ⟨g, 3, none⟩, ⟨g, 4, none⟩, ⟨g, 5, none⟩, ⟨g, 6, none⟩, ⟨g, 7, none⟩, ⟨g, 8, none⟩, ⟨g, 9, none⟩, ⟨g, 10, none⟩, ⟨g, 11, none⟩, ⟨g, 12, none⟩].flatMap ptrC) ++ flagC ⟨g, 13, none⟩) ++ [⟨g, 14, none⟩].flatMap ptrC) ∧ Below w.heap.size w W) ⟨v2, hO2, hW2, BB⟩ ?_
  rintro W ⟨v, hO, hW, hB⟩
  have lO := hO.lt
  have hne : v.ownBlock ≠ some W.heap.size := fun e => by have := (hW.lt _ e).2; omega
  have hno : v.ownBlock ≠ some w.heap.size := fun e => by have := (hW.lt _ e).1; omega
  have HO := Lib.hid hO
  have HW := Lib.hid hW
  have HB := Lib.hid hB
  clear hO hW hB
  clear hO2 hW2 BB
  go_wp2_with fail
  refine region_L (fun W => W.cell? ⟨w.heap.size, 0, none⟩ = some v) [7] (by kernel_rfl) ?_
  have hS0 : W.drew.cell? ⟨w.heap.size, 0, none⟩ = some v := HO.out.cell' 0 rfl
  refine take_L 0 (v := v) rfl (by kernel_rfl) (by kernel_rfl) (by kernel_rfl) (by kernel_rfl) (fun _ _ _ h => h) rfl (fun W' hW' => by go_simp) hS0 ?_
  refine take_P 1 (v := .pointer (some ⟨g, 0, none⟩)) rfl (by kernel_rfl) (by kernel_rfl) (by kernel_rfl) (fun _ _ _ h => h) rfl (fun W' => by go_simp) ?_
  refine take_P 2 (v := .pointer (some ⟨g, 0, none⟩)) rfl (by kernel_rfl) (by kernel_rfl) (by kernel_rfl) (fun _ _ _ h => h) rfl (fun W' => by go_simp) ?_
  refine take_P 3 (v := .pointer (some ⟨g, 15, none⟩)) rfl (by kernel_rfl) (by kernel_rfl) (by kernel_rfl) (fun _ _ _ h => h) rfl (fun W' => by go_simp) ?_
  refine take_P 4 (v := .agg #[.pointer none, .pointer (some ⟨g, 15, none⟩)]) rfl (by kernel_rfl) (by kernel_rfl) (by kernel_rfl) (fun _ _ _ h => h) rfl (fun W' => by go_simp) ?_
  refine one_L 5 (by kernel_rfl) rfl rfl fun K5 hK5 => ?_
  have HK5 := Lib.hid hK5
  clear hK5
  refine wo_nm1 (.tmp 71) (.pointer none) (.pointer (some ⟨g, 15, none⟩)) (by with_unfolding_all rfl) ?_
  have OA := HO.out.drew.alloc (.cells #[.pointer none, .pointer (some ⟨g, 15, none⟩)] 78)
  refine HK5.out _ _ (fun _ _ => OA.cell' 0 rfl) ?_
  refine one_L 6 (by kernel_rfl) rfl rfl fun K6 hK6 => ?_
  have HK6 := Lib.hid hK6
  clear hK6
  refine wo_nmapp (.tmp 67) (.tmp 72) ((([] ++ [⟨g, 1, none⟩, ⟨g, 2, none⟩, ⟨g, 3, none⟩, ⟨g, 4, none⟩, ⟨g, 5, none⟩, ⟨g, 6, none⟩, ⟨g, 7, none⟩, ⟨g, 8, none⟩, ⟨g, 9, none⟩, ⟨g, 10, none⟩, ⟨g, 11, none⟩, ⟨g, 12, none⟩].flatMap ptrC) ++ flagC ⟨g, 13, none⟩) ++ [⟨g, 14, none⟩].flatMap ptrC) (.pointer none) (.pointer (some ⟨g, 15, none⟩)) W.heap.size (by with_unfolding_all rfl) (World.ownsRow.alloc HW.out.drew _) (by with_unfolding_all rfl) (Blk.new W.drew _ _) rfl rfl (by omega) (by show _ ≤ (W.drew.alloc _).heap.size; simp; omega) ?_
  intro g' c' wA hownA hgrow
  have OB := OA.grown hgrow (fun e => hno e.symm)
  have BA : Below w.heap.size w wA := (HB.out.drew.alloc (Nat.le_of_lt lO) (.cells #[.pointer none, .pointer (some ⟨g, 15, none⟩)] 78)).trans (below_of_grown hgrow (by simp; omega) (fun b e => by have := (HW.out.lt b e).1; omega))
  clear hgrow
  refine HK6.out _ _ (fun _ _ => OB.cell' 0 rfl) ?_
  have fO := OB.frozen 0
  have rO := OB.cell' 0 rfl
  refine one_L 7 (by kernel_rfl) rfl rfl fun K7 hK7 => ?_
  have HK7 := Lib.hid hK7
  clear hK7
  go_simp
  refine HK7.out _ _ (fun h => absurd h (by decide)) ?_
  refine done_L (by kernel_rfl) ?_ _
  clear HK5 HK6 HK7 hS0 HO HW HB OA
  clear fO rO
  refine on_told (fun W => ∃ v, Blk W w.heap.size 72 #[v] ∧ W.ownsRow (w.heap.size + 1) 78 2 v 15 (((([] ++ [⟨g, 1, none⟩, ⟨g, 2, none⟩, ⟨g, 3, none⟩, ⟨g, 4, none⟩, ⟨g, 5, none⟩, ⟨g, 6, none⟩, ⟨g, 7, none⟩, ⟨g, 8, none⟩, ⟨g, 9, none⟩, ⟨g, 10, none⟩, ⟨g, 11, none⟩, ⟨g, 12, none⟩].flatMap ptrC) ++ flagC ⟨g, 13, none⟩) ++ [⟨g, 14, none⟩].flatMap ptrC) ++ flagC ⟨g, 15, none⟩) ∧ Below w.heap.size w W) ⟨.slice (some ⟨g', 0, none⟩) 15 c', OB.put 0 _, own_grown hownA (grown_setCell (w := wA) (p := ⟨w.heap.size, 0, none⟩) (grown_refl wA (some w.heap.size)) (.inl rfl) (.slice (some ⟨g', 0, none⟩) 15 c')) (by intro b hb; have := Option.some.inj hb; omega), BA.setCell (Nat.le_refl _) _⟩ ?_
  rintro W ⟨v, hO, hW, hB⟩
  have lO := hO.lt
  have hne : v.ownBlock ≠ some W.heap.size := fun e => by have := (hW.lt _ e).2; omega
  have hno : v.ownBlock ≠ some w.heap.size := fun e => by have := (hW.lt _ e).1; omega
  have HO := Lib.hid hO
  have HW := Lib.hid hW
  have HB := Lib.hid hB
  clear hO hW hB
  clear hownA BA OB
  go_simp
  go_wp2_with fail
  refine region_L (fun _ => True) [] (by kernel_rfl) ?_
  have hS0 : True := trivial
  refine take_P 0 (v := .func (.func 82) #[] #[.pointer (some ⟨w.heap.size, 0, none⟩)]) rfl (by kernel_rfl) (by kernel_rfl) (by kernel_rfl) (fun _ _ _ h => h) rfl (fun W' => by go_simp) ?_
  refine take_P 1 (v := .pointer (some ⟨g, 0, none⟩)) rfl (by kernel_rfl) (by kernel_rfl) (by kernel_rfl) (fun _ _ _ h => h) rfl (fun W' => by go_simp) ?_
  refine take_P 2 (v := .pointer (some ⟨g, 0, none⟩)) rfl (by kernel_rfl) (by kernel_rfl) (by kernel_rfl) (fun _ _ _ h => h) rfl (fun W' => by go_simp) ?_
  refine take_P 3 (v := .pointer (some ⟨g, 16, none⟩)) rfl (by kernel_rfl) (by kernel_rfl) (by kernel_rfl) (fun _ _ _ h => h) rfl (fun W' => by go_simp) ?_
  refine take_P 4 (v := .pointer (some ⟨g, 0, none⟩)) rfl (by kernel_rfl) (by kernel_rfl) (by kernel_rfl) (fun _ _ _ h => h) rfl (fun W' => by go_simp) ?_
  refine take_P 5 (v := .pointer (some ⟨g, 0, none⟩)) rfl (by kernel_rfl) (by kernel_rfl) (by kernel_rfl) (fun _ _ _ h => h) rfl (fun W' => by go_simp) ?_
  refine take_P 6 (v := .pointer (some ⟨g, 17, none⟩)) rfl (by kernel_rfl) (by kernel_rfl) (by kernel_rfl) (fun _ _ _ h => h) rfl (fun W' => by go_simp) ?_
  refine take_P 7 (v := .pointer (some ⟨g, 0, none⟩)) rfl (by kernel_rfl) (by kernel_rfl) (by kernel_rfl) (fun _ _ _ h => h) rfl (fun W' => by go_simp) ?_
  refine take_P 8 (v := .pointer (some ⟨g, 0, none⟩)) rfl (by kernel_rfl) (by kernel_rfl) (by kernel_rfl) (fun _ _ _ h => h) rfl (fun W' => by go_simp) ?_
  refine take_P 9 (v := .pointer (some ⟨g, 18, none⟩)) rfl (by kernel_rfl) (by kernel_rfl) (by kernel_rfl) (fun _ _ _ h => h) rfl (fun W' => by go_simp) ?_
  refine take_P 10 (v := .pointer (some ⟨g, 0, none⟩)) rfl (by kernel_rfl) (by kernel_rfl) (by kernel_rfl) (fun _ _ _ h => h) rfl (fun W' => by go_simp) ?_
  refine take_P 11 (v := .pointer (some ⟨g, 0, none⟩)) rfl (by kernel_rfl) (by kernel_rfl) (by kernel_rfl) (fun _ _ _ h => h) rfl (fun W' => by go_simp) ?_
  refine take_P 12 (v := .pointer (some ⟨g, 19, none⟩)) rfl (by kernel_rfl) (by kernel_rfl) (by kernel_rfl) (fun _ _ _ h => h) rfl (fun W' => by go_simp) ?_
  refine take_P 13 (v := .pointer (some ⟨g, 0, none⟩)) rfl (by kernel_rfl) (by kernel_rfl) (by kernel_rfl) (fun _ _ _ h => h) rfl (fun W' => by go_simp) ?_
  refine take_P 14 (v := .pointer (some ⟨g, 0, none⟩)) rfl (by kernel_rfl) (by kernel_rfl) (by kernel_rfl) (fun _ _ _ h => h) rfl (fun W' => by go_simp) ?_
  refine take_P 15 (v := .pointer (some ⟨g, 20, none⟩)) rfl (by kernel_rfl) (by kernel_rfl) (by kernel_rfl) (fun _ _ _ h => h) rfl (fun W' => by go_simp) ?_
  refine one_L 16 (by kernel_rfl) rfl rfl fun K16 hK16 => ?_
  have HK16 := Lib.hid hK16
  clear hK16
  obtain ⟨ip, hip, hp0, hp1, hp2⟩ := info_parts infoPI
  refine wo_buildSlice 114 75 5 _ #[.pointer (some ⟨g, 16, none⟩), .pointer (some ⟨g, 17, none⟩), .pointer (some ⟨g, 18, none⟩), .pointer (some ⟨g, 19, none⟩), .pointer (some ⟨g, 20, none⟩)] ip _ Tryz.underlying114 hip hp0 (by rw [hp1]; decide) (by rw [hp1]; decide) (by rw [hp1]; with_unfolding_all kernel_rfl) ?_
  refine HK16.out _ _ (fun _ _ => trivial) ?_
  refine one_L 17 (by kernel_rfl) rfl rfl fun K17 hK17 => ?_
  have HK17 := Lib.hid hK17
  clear hK17
  go_simp
  refine (add_any w.heap.size W.heap.size 15 v (((([] ++ [⟨g, 1, none⟩, ⟨g, 2, none⟩, ⟨g, 3, none⟩, ⟨g, 4, none⟩, ⟨g, 5, none⟩, ⟨g, 6, none⟩, ⟨g, 7, none⟩, ⟨g, 8, none⟩, ⟨g, 9, none⟩, ⟨g, 10, none⟩, ⟨g, 11, none⟩, ⟨g, 12, none⟩].flatMap ptrC) ++ flagC ⟨g, 13, none⟩) ++ [⟨g, 14, none⟩].flatMap ptrC) ++ flagC ⟨g, 15, none⟩) [⟨g, 16, none⟩, ⟨g, 17, none⟩, ⟨g, 18, none⟩, ⟨g, 19, none⟩, ⟨g, 20, none⟩] _ (HO.out.drew.alloc _) (show Blk _ W.heap.size 75 #[.pointer (some ⟨g, 16, none⟩), .pointer (some ⟨g, 17, none⟩), .pointer (some ⟨g, 18, none⟩), .pointer (some ⟨g, 19, none⟩), .pointer (some ⟨g, 20, none⟩)] from Blk.new W.drew _ _) (World.ownsRow.alloc HW.out.drew _) hne lO (by omega) (by simp)).mono ?_
  rintro e W2 ⟨rfl, v2, hO2, hW2, hB2⟩
  have BB : Below w.heap.size w W2 := ((HB.out.drew).alloc (Nat.le_of_lt lO) _).trans hB2
  clear hB2
  refine HK17.out _ _ (fun _ _ => trivial) ?_
  refine done_L (by kernel_rfl) ?_ _
  clear HK16 HK17 hS0 HO HW HB
  refine on_told (fun W => ∃ v, Blk W w.heap.size 72 #[v] ∧ W.ownsRow (w.heap.size + 1) 78 2 v 20 ((((([] ++ [⟨g, 1, none⟩, ⟨g, 2, none⟩, ⟨g, 3, none⟩, ⟨g, 4, none⟩, ⟨g, 5, none⟩, ⟨g, 6, none⟩, ⟨g, 7, none⟩, ⟨g, 8, none⟩, ⟨g, 9, none⟩, ⟨g, 10, none⟩, ⟨g, 11, none⟩, ⟨g, 12, none⟩].flatMap ptrC) ++ flagC ⟨g, 13, none⟩) ++ [⟨g, 14, none⟩].flatMap ptrC) ++ flagC ⟨g, 15, none⟩) ++ [⟨g, 16, none⟩, ⟨g, 17, none⟩, ⟨g, 18, none⟩, ⟨g, 19, none⟩, ⟨g, 20, none⟩].flatMap ptrC) ∧ Below w.heap.size w W) ⟨v2, hO2, hW2, BB⟩ ?_
  rintro W ⟨v, hO, hW, hB⟩
  have lO := hO.lt
  have hne : v.ownBlock ≠ some W.heap.size := fun e => by have := (hW.lt _ e).2; omega
  have hno : v.ownBlock ≠ some w.heap.size := fun e => by have := (hW.lt _ e).1; omega
  have HO := Lib.hid hO
  have HW := Lib.hid hW
  have HB := Lib.hid hB
  clear hO hW hB
  clear hO2 hW2 BB
  go_simp
  go_wp2_with fail
  refine region_L (fun W => W.cell? ⟨w.heap.size, 0, none⟩ = some v) [7] (by kernel_rfl) ?_
  have hS0 : W.drew.cell? ⟨w.heap.size, 0, none⟩ = some v := HO.out.cell' 0 rfl
  refine take_L 0 (v := v) rfl (by kernel_rfl) (by kernel_rfl) (by kernel_rfl) (by kernel_rfl) (fun _ _ _ h => h) rfl (fun W' hW' => by go_simp) hS0 ?_
  refine take_P 1 (v := .pointer (some ⟨g, 0, none⟩)) rfl (by kernel_rfl) (by kernel_rfl) (by kernel_rfl) (fun _ _ _ h => h) rfl (fun W' => by go_simp) ?_
  refine take_P 2 (v := .pointer (some ⟨g, 0, none⟩)) rfl (by kernel_rfl) (by kernel_rfl) (by kernel_rfl) (fun _ _ _ h => h) rfl (fun W' => by go_simp) ?_
  refine take_P 3 (v := .pointer (some ⟨g, 21, none⟩)) rfl (by kernel_rfl) (by kernel_rfl) (by kernel_rfl) (fun _ _ _ h => h) rfl (fun W' => by go_simp) ?_
  refine take_P 4 (v := .agg #[.pointer none, .pointer (some ⟨g, 21, none⟩)]) rfl (by kernel_rfl) (by kernel_rfl) (by kernel_rfl) (fun _ _ _ h => h) rfl (fun W' => by go_simp) ?_
  refine one_L 5 (by kernel_rfl) rfl rfl fun K5 hK5 => ?_
  have HK5 := Lib.hid hK5
  clear hK5
  refine wo_nm1 (.tmp 96) (.pointer none) (.pointer (some ⟨g, 21, none⟩)) (by with_unfolding_all rfl) ?_
  have OA := HO.out.drew.alloc (.cells #[.pointer none, .pointer (some ⟨g, 21, none⟩)] 78)
  refine HK5.out _ _ (fun _ _ => OA.cell' 0 rfl) ?_
  refine one_L 6 (by kernel_rfl) rfl rfl fun K6 hK6 => ?_
  have HK6 := Lib.hid hK6
  clear hK6
  refine wo_nmapp (.tmp 92) (.tmp 97) ((((([] ++ [⟨g, 1, none⟩, ⟨g, 2, none⟩, ⟨g, 3, none⟩, ⟨g, 4, none⟩, ⟨g, 5, none⟩, ⟨g, 6, none⟩, ⟨g, 7, none⟩, ⟨g, 8, none⟩, ⟨g, 9, none⟩, ⟨g, 10, none⟩, ⟨g, 11, none⟩, ⟨g, 12, none⟩].flatMap ptrC) ++ flagC ⟨g, 13, none⟩) ++ [⟨g, 14, none⟩].flatMap ptrC) ++ flagC ⟨g, 15, none⟩) ++ [⟨g, 16, none⟩, ⟨g, 17, none⟩, ⟨g, 18, none⟩, ⟨g, 19, none⟩, ⟨g, 20, none⟩].flatMap ptrC) (.pointer none) (.pointer (some ⟨g, 21, none⟩)) W.heap.size (by with_unfolding_all rfl) (World.ownsRow.alloc HW.out.drew _) (by with_unfolding_all rfl) (Blk.new W.drew _ _) rfl rfl (by omega) (by show _ ≤ (W.drew.alloc _).heap.size; simp; omega) ?_
  intro g' c' wA hownA hgrow
  have OB := OA.grown hgrow (fun e => hno e.symm)
  have BA : Below w.heap.size w wA := (HB.out.drew.alloc (Nat.le_of_lt lO) (.cells #[.pointer none, .pointer (some ⟨g, 21, none⟩)] 78)).trans (below_of_grown hgrow (by simp; omega) (fun b e => by have := (HW.out.lt b e).1; omega))
  clear hgrow
  refine HK6.out _ _ (fun _ _ => OB.cell' 0 rfl) ?_
  refine one_L 7 (by kernel_rfl) rfl rfl fun K7 hK7 => ?_
  have HK7 := Lib.hid hK7
  clear hK7
  go_simp
  refine HK7.out _ _ (fun h => absurd h (by decide)) ?_
  refine done_L (by kernel_rfl) ?_ _
  clear HK5 HK6 HK7 hS0 HO HW HB OA
  have WA := Lib.hid hownA
  have BA := Lib.hid BA
  clear hownA OB
  go_simp
  go_wp2_with fail
  go_ret
  exact ⟨g', c', rfl, own_base WA.out (Nat.le_succ _), BA.out⟩
end Go.Proofs.YtefdjdipbnnoaaaGreatDoor
