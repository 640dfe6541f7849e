/-
  canon.numbers and its closure: the places of an item's numbers. Any item in memory.
-/
import Derived.Test.YtefdjdipbnnoaaaGreatDoorItem17
import Derived.Test.YtefdjdipbnnoaaaGreatDoorHeldM
import Derived.Test.YtefdjdipbnnoaaaGreatDoorStageA17
namespace Go.Proofs.YtefdjdipbnnoaaaGreatDoor
open Go Go.RowKit
set_option linter.unusedVariables false
set_option linter.unusedSimpArgs false

theorem infoNm : (Tryz.prog.info? 78).map (fun i => (i.zero, i.size, i.bytes)) = some (some (.agg #[.pointer none, .pointer none]), 2, 16) := by kernel_rfl
theorem nm_fill (x y : Value) : Instr.fill (fun i => some (i * 2, 2)) ((Array.range (1 * 2)).map ((Value.agg #[.pointer none, .pointer none]).cells[· % (Value.agg #[.pointer none, .pointer none]).cells.size]!)) [(0, .agg #[x, y])] = some #[x, y] := by with_unfolding_all rfl
theorem go_nm1 {ops : Array Oper} {rest : List Oper} {a : Act} {w : World} {Q : Exit → Act → World → Prop} {dst : Option Tmp} {ty0 : TypeId} {pos : String} {after : Array Edge} (x : Operand) (u v : Value) (hx : a.eval x = .agg #[u, v])
    (h : wpList Tryz.prog ops Q rest (a.put dst (.slice (some ⟨w.heap.size, 0, none⟩) 1 1)) (w.alloc (.cells #[u, v] 78))) : wpList Tryz.prog ops Q (⟨dst, .buildSlice 72 1 #[(0, x)], ty0, pos, after, none⟩ :: rest) a w := by
  obtain ⟨i0, hi, hz0, hz1, hz2⟩ := info_parts infoNm
  refine go_buildSlice 72 78 1 _ #[u, v] i0 _ Tryz.underlying72 hi hz0 (by rw [hz1]; decide) (by rw [hz1]; decide) ?_ h
  rw [hz1]
  simp only [List.map_toArray, List.map_cons, List.map_nil, hx]
  exact nm_fill _ _
/-- append of one number's place that lies in a block of its own. -/
theorem go_nmapp {ops : Array Oper} {rest : List Oper} {a : Act} {w : World} {Q : Exit → Act → World → Prop} {dst : Option Tmp} {ty0 : TypeId} {pos : String} {after : Array Edge} (x y : Operand) {base n : Nat} {v : Value} (xs : List Value) (u1 u2 : Value) (g : Nat)
    (hx : a.eval x = v) (hown : w.ownsRow base 78 2 v n xs) (hy : a.eval y = .slice (some ⟨g, 0, none⟩) 1 1) (hg : Blk w g 78 #[u1, u2]) (h1 : u1.oneCell' = true) (h2 : u2.oneCell' = true) (hn : n ≤ 1000000) (hb : base ≤ w.heap.size)
    (h : ∀ g' c' w', w'.ownsRow base 78 2 (.slice (some ⟨g', 0, none⟩) (n + 1) c') (n + 1) (xs ++ [u1, u2]) → w.grownBy w' v.ownBlock → (v.ownBlock = some g' ∨ g' = w.heap.size) → wpList Tryz.prog ops Q rest (a.put dst (.slice (some ⟨g', 0, none⟩) (n + 1) c')) w') : wpList Tryz.prog ops Q (⟨dst, .call { callee := .builtin .append, args := #[x, y], argTypes := #[72, 72] }, ty0, pos, after, none⟩ :: rest) a w := by
  obtain ⟨i0, hi, hz0, hz1, hz2⟩ := info_parts infoNm
  refine wpList_append_lies w rfl x y 72 rfl base 78 i0 (.agg #[.pointer none, .pointer none]) 2 16 Tryz.underlying72 hi hz0 hz1 hz2 (by kernel_rfl) (by decide) v n xs hx hown ⟨g, 0, none⟩ 1 1 [u1, u2] hy rfl ?_ ?_ (by omega) (by unfold maxLen; omega) (by omega) hb w.heap.size rfl ?_
  · intro j u hu
    rw [Addr.add_mid, Nat.zero_add, hg.cell]
    simpa using hu
  · intro u hu
    simp only [List.mem_cons, List.not_mem_nil, or_false] at hu
    rcases hu with rfl | rfl
    · exact h1
    · exact h2
  · intro g' c' w' hown' hgrow hor _
    exact h g' c' w' hown' hgrow hor
theorem take_snocN {α : Type} {l : List α} {k : Nat} {x : α} (h : l[k]? = some x) : l.take (k + 1) = l.take k ++ [x] := by
  obtain ⟨hl, rfl⟩ := List.getElem?_eq_some_iff.1 h
  rw [List.take_succ_eq_append_getElem hl]
/-- What is appended for a place of an int. -/
def ptrC (p : Addr) : List Value := [.pointer (some p), .pointer none]
set_option maxRecDepth 100000 in
set_option maxHeartbeats 2000000 in
theorem add_any (O P n : Nat) (v : Value) (xs : List Value) (ps : List Addr) (w : World) (hO : Blk w O 72 #[v]) (hP : Blk w P 75 (ps.map fun p => Value.pointer (some p)).toArray) (hown : w.ownsRow (O + 1) 78 2 v n xs) (hne : v.ownBlock ≠ some P) (hOP : O < P) (hn : n ≤ 100) (hps : ps.length ≤ 20) :
    Calls Tryz.prog 82 #[.slice (some ⟨P, 0, none⟩) ps.length ps.length, .pointer (some ⟨O, 0, none⟩)] w fun e w' => e = .returned (.tuple #[]) ∧ ∃ v', Blk w' O 72 #[v'] ∧ w'.ownsRow (O + 1) 78 2 v' (n + ps.length) (xs ++ ps.flatMap ptrC) ∧ Below O w w' := by
  obtain ⟨m, hm⟩ : ∃ m, ps.length = m := ⟨_, rfl⟩
  have HG := Lib.hid (fun k (hk : k < m) => (⟨ps[k]'(by omega), List.getElem?_eq_getElem _⟩ : ∃ x, ps[k]? = some x))
  have HM := Lib.hid hm
  have HO := Lib.hid hO
  have HP := Lib.hid hP
  have HW := Lib.hid hown
  have lO := hO.lt
  have lP := hP.lt
  rw [hm] at hps ⊢
  clear hm hO hP hown
  go_enter Tryz.func82, Tryz.ntmps82
  go_wp2_with fail
  go_loopw [7] (fun s7 wr => ∃ (k : Nat) (v : Value), k ≤ m ∧ s7 = .int .i64 k ∧ Blk wr O 72 #[v] ∧ Blk wr P 75 (ps.map fun p => Value.pointer (some p)).toArray ∧ wr.ownsRow (O + 1) 78 2 v (n + k) (xs ++ (ps.take k).flatMap ptrC) ∧ v.ownBlock ≠ some P ∧ Below O w wr)
    (fun s7 _ => m - (intOf s7).toNat)
  case atStart => exact ⟨0, v, by omega, rfl, HO.out, HP.out, by simpa using HW.out, hne, Below.refl _ _⟩
  case round =>
    obtain ⟨k, v, hk, rfl, hO, hP, hW, hne, bel⟩ := hrel
    have hsz := bel.size
    have lO := hO.lt
    have lP := hP.lt
    by_cases hlt : k < m
    · obtain ⟨p, hx⟩ := HG.out k hlt
      have e1 : decide (k < m) = true := decide_eq_true hlt
      have i1 : (0 : Int) ≤ (k : Int) := by omega
      have i2 : (k : Int) < (m : Int) := by omega
      have cO := hO.cell' 0 rfl
      have cP : wr.cell? ⟨P, k, none⟩ = some (.pointer (some p)) := hP.cell' k (by simp [hx])
      have HT := Lib.hid (take_snocN hx)
      have HO1 := Lib.hid hO
      have HP1 := Lib.hid hP
      have HW1 := Lib.hid hW
      have BEL := Lib.hid bel
      have hno : ∀ b, v.ownBlock = some b → O + 1 ≤ b := fun b e => (HW1.out.lt b e).1
      clear hO hP hW bel hx
      go_wp2_with (first
        | ((with_reducible refine go_nm1 (.tmp 13) (.pointer (some p)) (.pointer none) (by with_unfolding_all rfl) ?_))
        | ((with_reducible refine go_nmapp (.tmp 11) (.tmp 14) (xs ++ (ps.take k).flatMap ptrC) (.pointer (some p)) (.pointer none) wr.heap.size (by with_unfolding_all rfl) (HW1.out.alloc _) (by with_unfolding_all rfl) (Blk.new _ _ _) rfl rfl (by omega) (by simp; omega) ?_); intro g' c' wA hownA hgrow hor; have OA := (HO1.out.alloc (.cells #[.pointer (some p), .pointer none] 78)).grown hgrow (fun e => by have := hno _ e.symm; omega); have PA := (HP1.out.alloc (.cells #[.pointer (some p), .pointer none] 78)).grown hgrow (fun e => hne e.symm); have hne' : g' ≠ P := hor.elim (fun h e => hne (by rw [h, e])) (fun h => by rw [h]; simp; omega); have belA : Below O w wA := (BEL.out.alloc (by omega) (.cells #[.pointer (some p), .pointer none] 78)).trans (below_of_grown hgrow (by simp; omega) (fun b e => by have := hno b e; omega)); have fO := OA.frozen 0; have rO := OA.cell' 0 rfl; have OA := Lib.hid OA; have PA := Lib.hid PA; have WA := Lib.hid hownA; have BA := Lib.hid belA; clear hownA hgrow hor belA cO cP))
      go_roundw
      case rel =>
        refine ⟨k + 1, .slice (some ⟨g', 0, none⟩) (n + k + 1) c', by omega, by go_num, by have := OA.out.put 0 (.slice (some ⟨g', 0, none⟩) (n + k + 1) c'); exact this, PA.out.skip (by show P ≠ O; omega) _, ?_, ?_, BA.out.setCell (by show O ≤ O; omega) _⟩
        · have h1 := own_grown WA.out (grown_setCell (w := wA) (p := ⟨O, 0, none⟩) (grown_refl wA (some O)) (.inl rfl) (.slice (some ⟨g', 0, none⟩) (n + k + 1) c')) (by intro b hb; injection hb; omega)
          rw [HT.out, List.flatMap_append, ← List.append_assoc]
          exact h1
        · intro e
          injection e with e
          exact hne' e
      case measure => simp [intOf]; omega
    · obtain rfl : k = m := by omega
      have e1 : decide (k < k) = false := by simp
      have HO1 := Lib.hid hO
      have HW1 := Lib.hid hW
      have BEL := Lib.hid bel
      clear hO hP hW bel
      go_wp2_with fail
      go_end0
      have h1 := HW1.out
      rw [List.take_of_length_le (by have := HM.out; omega)] at h1
      exact ⟨rfl, v, HO1.out, h1, BEL.out⟩
end Go.Proofs.YtefdjdipbnnoaaaGreatDoor
