/-
  cncstage: the blocks that Block makes of a tape, in plain words; word walked. No condition.
  cncstage.Block: blocks without words. No condition.
  cncstage.Block: blocks without words. No condition.
  cncstage.Block: blocks with words; Block whole. No condition.
-/
import Derived.Test.YteiogjgmedikhaaExprS09
import Derived.Test.YteiogjgmedikhaaMemB09
import Derived.Test.YteiogjgmedikhaaBuild
import Derived.Test.YteiogjgmedikhaaCopyP09
import Derived.Test.YteiogjgmedikhaaRCopied09
import Derived.Test.YteiogjgmedikhaaHeldL
namespace Go.Proofs.Yteiogjgmedikhaa
open Go Go.RowKit
set_option linter.unusedVariables false

def zeroX : Ex := .mk 0 0 []
def lettersL : List Int := [71, 88, 89, 90, 70, 77, 80, 76, 65, 66, 67, 73, 74]
/-- m words from position k on. -/
def wordsF (T : Tp) : Nat → Nat → List WordL × Nat
  | 0, k => ([], k)
  | m + 1, k => (⟨lettersL.getD (nextF T k 13).1.toNat 0, (exprF T 2 (nextF T k 13).2).1⟩ :: (wordsF T m (exprF T 2 (nextF T k 13).2).2).1, (wordsF T m (exprF T 2 (nextF T k 13).2).2).2)
/-- The label, and the position behind it. -/
def labelF (T : Tp) (k : Nat) : Int × Nat := if (nextF T k 3).1 = 0 then rangeF T (nextF T k 3).2 1 6 else (0, (nextF T k 3).2)
/-- The rest of a block, when v was drawn. -/
def bodyF (T : Tp) (sk : Bool) (lab : Int) (v : Int) (k : Nat) : BlkL × Nat :=
  if v ≤ 1 then (⟨1, lab, sk, [], leafE ((variableF T k).1 * 1000000), (exprF T 4 (variableF T k).2).1, 0⟩, (exprF T 4 (variableF T k).2).2)
  else if v = 2 then (⟨2, lab, sk, [], zeroX, leafE ((rangeF T k 1 6).1 * 1000000), 0⟩, (rangeF T k 1 6).2)
  else if v ≤ 4 then (⟨3, lab, sk, [], leafE ((rangeF T (exprF T 3 k).2 1 6).1 * 1000000), (exprF T 3 k).1, 0⟩, (rangeF T (exprF T 3 k).2 1 6).2)
  else if v = 5 then (⟨4, lab, sk, [], zeroX, (exprF T 3 k).1, (rangeF T (exprF T 3 k).2 1 3).1⟩, (rangeF T (exprF T 3 k).2 1 3).2)
  else if v = 6 then (⟨5, lab, sk, [], zeroX, zeroX, (rangeF T k 1 3).1⟩, (rangeF T k 1 3).2)
  else if v = 7 then
    if (nextF T k 3).1 = 0 then (⟨6, lab, sk, [], zeroX, zeroX, (rangeF T (nextF T k 3).2 1 4).1⟩, (rangeF T (nextF T k 3).2 1 4).2)
    else (⟨0, lab, sk, [], zeroX, zeroX, 0⟩, (nextF T k 3).2)
  else (⟨0, lab, sk, (wordsF T (nextF T k 4).1.toNat (nextF T k 4).2).1, zeroX, zeroX, 0⟩, (wordsF T (nextF T k 4).1.toNat (nextF T k 4).2).2)
def blockF (T : Tp) (k : Nat) : BlkL × Nat :=
  bodyF T ((nextF T k 8).1 == 0) (labelF T (nextF T k 8).2).1 (nextF T (labelF T (nextF T k 8).2).2 12).1 (nextF T (labelF T (nextF T k 8).2).2 12).2
theorem labelF_bd (T : Tp) (k : Nat) : 0 ≤ (labelF T k).1 ∧ (labelF T k).1 ≤ 6 := by
  have h1 := rangeF_lo T (nextF T k 3).2 (lo := 1) (hi := 6) (by decide)
  have h2 := rangeF_hi T (nextF T k 3).2 (lo := 1) (hi := 6) (by decide)
  unfold labelF
  split <;> (try simp only) <;> omega
theorem letters_ok {x : Int} (h : x ∈ lettersL) : 65 ≤ x ∧ x ≤ 90 ∧ x ≠ 78 ∧ x ≠ 79 := by
  unfold lettersL at h
  simp only [List.mem_cons, List.not_mem_nil, or_false] at h
  omega
theorem wordsF_ok (T : Tp) : ∀ (m k : Nat), (wordsF T m k).1.length = m ∧ ∀ x ∈ (wordsF T m k).1, wordB x = true
  | 0, k => ⟨rfl, fun x h => by simp [wordsF] at h⟩
  | m + 1, k => by
    obtain ⟨h1, h2⟩ := wordsF_ok T m (exprF T 2 (nextF T k 13).2).2
    have l1 := nextF_lo T k (m := 13) (by decide)
    have l2 := nextF_hi T k (m := 13) (by decide)
    refine ⟨by unfold wordsF; simp [h1], fun x h => ?_⟩
    unfold wordsF at h
    simp only [List.mem_cons] at h
    rcases h with rfl | h
    · unfold wordB
      rw [decide_eq_true (letters_ok (getD_mem (by show _ < 13; omega))), Bool.true_and]
      exact exprF_right T 2 15 _ (by decide)
    · exact h2 x h
theorem zeroX_ok : zeroE zeroX = true := rfl
theorem bodyF_valid (T : Tp) (sk : Bool) (lab v : Int) (k : Nat) (hl : 0 ≤ lab ∧ lab ≤ 99999) (hv : 0 ≤ v ∧ v < 12) : validB (bodyF T sk lab v k).1 = true := by
  have r1 := rangeF_lo T k (lo := 1) (hi := 6) (by decide)
  have r2 := rangeF_hi T k (lo := 1) (hi := 6) (by decide)
  have r3 := rangeF_lo T (exprF T 3 k).2 (lo := 1) (hi := 6) (by decide)
  have r4 := rangeF_hi T (exprF T 3 k).2 (lo := 1) (hi := 6) (by decide)
  have r5 := rangeF_lo T (exprF T 3 k).2 (lo := 1) (hi := 3) (by decide)
  have r6 := rangeF_hi T (exprF T 3 k).2 (lo := 1) (hi := 3) (by decide)
  have r7 := rangeF_lo T k (lo := 1) (hi := 3) (by decide)
  have r8 := rangeF_hi T k (lo := 1) (hi := 3) (by decide)
  have r9 := rangeF_lo T (nextF T k 3).2 (lo := 1) (hi := 4) (by decide)
  have r10 := rangeF_hi T (nextF T k 3).2 (lo := 1) (hi := 4) (by decide)
  have n1 := nextF_lo T k (m := 4) (by decide)
  have n2 := nextF_hi T k (m := 4) (by decide)
  have vb := variableF_bd T k
  have lb : ¬ (lab < 0 ∨ 99999 < lab ∨ 24 < ([] : List WordL).length) := by simp; omega
  have zz : zeroE zeroX = true := rfl
  unfold bodyF
  split
  · unfold validB
    simp only [if_neg lb]
    simp [exprF_right T 4 15 _ (by decide), right_leaf 15 (show 0 ≤ (variableF T k).1 * 1000000 ∧ (variableF T k).1 * 1000000 < 1000000000000000 by omega)]
  split
  · unfold validB
    simp only [if_neg lb]
    simp [zz, right_leaf 15 (show 0 ≤ (rangeF T k 1 6).1 * 1000000 ∧ (rangeF T k 1 6).1 * 1000000 < 1000000000000000 by omega)]
  split
  · unfold validB
    simp only [if_neg lb]
    simp [exprF_right T 3 15 _ (by decide), right_leaf 15 (show 0 ≤ (rangeF T (exprF T 3 k).2 1 6).1 * 1000000 ∧ (rangeF T (exprF T 3 k).2 1 6).1 * 1000000 < 1000000000000000 by omega)]
  split
  · unfold validB
    simp only [if_neg lb]
    simp [zz, exprF_right T 3 15 _ (by decide)]
    omega
  split
  · unfold validB
    simp only [if_neg lb]
    simp [zz]
    omega
  split
  · split
    · unfold validB
      simp only [if_neg lb]
      simp [zz]
      omega
    · unfold validB
      simp only [if_neg lb]
      simp [zz]
  · obtain ⟨w1, w2⟩ := wordsF_ok T (nextF T k 4).1.toNat (nextF T k 4).2
    unfold validB
    rw [if_neg (by simp only [w1]; omega), if_pos rfl]
    simp only [zz, Bool.true_and]
    simpa using w2
theorem blockF_valid (T : Tp) (k : Nat) : validB (blockF T k).1 = true := by
  have := labelF_bd T (nextF T k 8).2
  exact bodyF_valid T _ _ _ _ (by omega) ⟨nextF_lo T _ (by decide), nextF_hi T _ (by decide)⟩

set_option maxRecDepth 100000 in
theorem word_any (l n : Int) (w : World) (hn : 0 ≤ n ∧ n ≤ 1000000000000000) :
    Calls Try.prog 47 #[.int .i64 l, .int .i64 n] w fun e w' => e = .returned (.agg #[.int .i64 l, .int .i64 0, .int .i64 n, .slice none 0 0]) ∧ w.grownBy w' none := by
  have hneg : IntKind.i64.wrap (-n) = -n := by rw [IntKind.wrap_i64]; omega
  have d0 : decide (n < 0) = false := decide_eq_false (by omega)
  go_enter Try.func47, Try.ntmps47
  go_wp2_with fail
  refine bodyPost_ret (results_cell_row rfl _ _ w.heap.size 48 #[.int .i64 l, .int .i64 0, .int .i64 n, .slice none 0 0] (0, 0) _ rfl (show Blk _ _ _ _ from ((Blk.new w _ _).alloc _)) Try.underlying48 rfl (by kernel_rfl)) rfl ?_
  exact ⟨rfl, grown_alloc (grown_alloc (grown_refl _ _) _) _⟩
end Go.Proofs.Yteiogjgmedikhaa

namespace Go.Proofs.Yteiogjgmedikhaa
open Go Go.RowKit
set_option linter.unusedVariables false


/-- What Block returns. -/
def BlockPost (B g : Nat) (ac : Option Addr) (c : Nat) (T : Tp) (w : World) (x : BlkL × Nat) (e : Ending) (w' : World) : Prop :=
  ∃ pl, e = .returned (.agg (blkC x.1 pl).toArray) ∧ BlkP (fun b => w.heap.size ≤ b) w' x.1 pl ∧ Took B g ac c T w x.2 w'
theorem Took.setRow {B g c k : Nat} {ac : Option Addr} {T : Tp} {w wx : World} (h : Took B g ac c T w k wx) {r : Nat} (hr : w.heap.size ≤ r) (hg : g < w.heap.size) (cs : Array Value) : Took B g ac c T w k (wx.setRow r cs) :=
  ⟨h.src.setRow (by have := h.src.old; omega) (by omega) cs, grown_setRow h.grown (.inr hr) cs⟩
def plN : Place := ⟨none, 0, fun _ => ⟨none, 0⟩, ⟨none, 0⟩, ⟨none, 0⟩⟩
theorem BlkP.plain (p : Nat → Prop) (W : World) (kd lab : Int) (sk : Bool) (o1 n1 o2 n2 n : Int) : BlkP p W ⟨kd, lab, sk, [], .mk o1 n1 [], .mk o2 n2 [], n⟩ plN :=
  ⟨⟨.inl rfl, fun i x h => by simp at h, by simp [plN]⟩, ExP.leaf _ _ _ _, ExP.leaf _ _ _ _⟩
set_option maxRecDepth 100000 in
set_option maxHeartbeats 1000000 in
theorem block_end (w : World) (B g : Nat) (ac : Option Addr) (c : Nat) (T : Tp) (k : Nat) (r : BlkL × Nat) (hs : Src w B g ac c T k)
    (hF : r = bodyF T ((nextF T k 8).1 == 0) (labelF T (nextF T k 8).2).1 (nextF T (labelF T (nextF T k 8).2).2 12).1 (nextF T (labelF T (nextF T k 8).2).2 12).2) (hq : (nextF T (labelF T (nextF T k 8).2).2 12).1 = 6) :
    Calls Try.prog 35 #[.pointer (some ⟨g, 0, none⟩)] w (BlockPost B g ac c T w r) := by
  have gl := hs.lt
  have t0 := (Took.start hs).alloc (.cells #[.int .i64 0, .int .i64 0, .bool false, .slice none 0 0, .int .i64 0, .int .i64 0, .slice none 0 0, .int .i64 0, .int .i64 0, .slice none 0 0, .int .i64 0] 37)
  have r0 := Blk.new w 37 #[.int .i64 0, .int .i64 0, .bool false, .slice none 0 0, .int .i64 0, .int .i64 0, .slice none 0 0, .int .i64 0, .int .i64 0, .slice none 0 0, .int .i64 0]
  have KN := Lib.hid (next_any _ B g ac c T k 8 t0.src (by decide) (by decide))
  have T0 := Lib.hid t0
  have R0 := Lib.hid r0
  clear t0 r0
  generalize nextF T k 8 = s at *
  obtain ⟨v, k1⟩ := s
  dsimp only at *
  have KN1 := Lib.hid (fun W hW => next_any W B g ac c T k1 3 hW (by decide) (by decide))
  have KR1 := Lib.hid (fun W hW => range_any W B g ac c T (nextF T k1 3).2 1 6 hW (by decide) (by decide) (by decide))
  have hL := labelF.eq_1 T k1
  have l1 := rangeF_lo T (nextF T k1 3).2 (lo := 1) (hi := 6) (by decide)
  have l2 := rangeF_hi T (nextF T k1 3).2 (lo := 1) (hi := 6) (by decide)
  generalize nextF T k1 3 = s at *
  obtain ⟨lv, k2⟩ := s
  dsimp only at *
  generalize rangeF T k2 1 6 = s at *
  obtain ⟨lr, k3⟩ := s
  dsimp only at *
  have HL := Lib.hid hL
  clear hL hs
  generalize labelF T k1 = s at *
  obtain ⟨lab, k4⟩ := s
  dsimp only at *
  have KN4 := Lib.hid (fun W hW => next_any W B g ac c T k4 12 hW (by decide) (by decide))
  have q1 := nextF_lo T k4 (m := 12) (by decide)
  have q2 := nextF_hi T k4 (m := 12) (by decide)
  generalize nextF T k4 12 = s at *
  obtain ⟨qv, k5⟩ := s
  dsimp only at *
  generalize hsk : (v == 0) = sk at *
  have HF := Lib.hid hF
  clear hF
  have HSK := Lib.hid hsk
  clear hsk
  go_enter Try.func35, Try.ntmps35
  go_wp2_with fail
  refine KN.out.mono ?_
  rintro e w1 ⟨rfl, t1⟩
  have r1 := t1.blk R0.out (by omega)
  have T1 := Lib.hid (T0.out.trans t1)
  have R1 := Lib.hid r1
  clear t1 r1 KN T0 R0
  have rl1 := R1.out.lt
  have sz1 := T1.out.size
  have hsk := HSK.out
  go_wp2_with fail
  clear hsk
  have T2 := Lib.hid (T1.out.alloc (.cells #[.int .i64 0, .int .i64 0, .bool sk, .slice none 0 0, .int .i64 0, .int .i64 0, .slice none 0 0, .int .i64 0, .int .i64 0, .slice none 0 0, .int .i64 0] 37))
  have R2 := Lib.hid (R1.out.alloc (.cells #[.int .i64 0, .int .i64 0, .bool sk, .slice none 0 0, .int .i64 0, .int .i64 0, .slice none 0 0, .int .i64 0, .int .i64 0, .slice none 0 0, .int .i64 0] 37))
  have X2 := Lib.hid (Blk.new w1 37 #[.int .i64 0, .int .i64 0, .bool sk, .slice none 0 0, .int .i64 0, .int .i64 0, .slice none 0 0, .int .i64 0, .int .i64 0, .slice none 0 0, .int .i64 0])
  have g2 : (w1.alloc (.cells #[.int .i64 0, .int .i64 0, .bool sk, .slice none 0 0, .int .i64 0, .int .i64 0, .slice none 0 0, .int .i64 0, .int .i64 0, .slice none 0 0, .int .i64 0] 37)).heap.size = w1.heap.size + 1 := by simp
  clear T1 R1
  generalize (w1.alloc (.cells #[.int .i64 0, .int .i64 0, .bool sk, .slice none 0 0, .int .i64 0, .int .i64 0, .slice none 0 0, .int .i64 0, .int .i64 0, .slice none 0 0, .int .i64 0] 37)) = W2 at *
  refine (KN1.out _ T2.out.src).mono ?_
  rintro e w3 ⟨rfl, t3⟩
  have T3 := Lib.hid (T2.out.trans t3)
  have R3 := Lib.hid (t3.blk R2.out (by omega))
  have X3 := Lib.hid (t3.blk X2.out (by omega))
  have sz3 := t3.size
  clear t3 T2 R2 X2 KN1
  go_upto_if 12 with fail
  go_cut [] (fun wx => Took B g ac c T w k4 wx ∧ Blk wx w.heap.size 37 #[.int .i64 0, .int .i64 0, .bool false, .slice none 0 0, .int .i64 0, .int .i64 0, .slice none 0 0, .int .i64 0, .int .i64 0, .slice none 0 0, .int .i64 0] ∧ Blk wx w1.heap.size 37 #[.int .i64 0, .int .i64 lab, .bool sk, .slice none 0 0, .int .i64 0, .int .i64 0, .slice none 0 0, .int .i64 0, .int .i64 0, .slice none 0 0, .int .i64 0])
  case first =>
    by_cases hl : lv = 0
    · subst hl
      have hL := HL.out
      rw [if_pos rfl] at hL
      injection hL with h1 h2
      subst h1 h2
      go_wp2_with fail
      refine (KR1.out _ T3.out.src).mono ?_
      rintro e w4 ⟨rfl, t4⟩
      have T4 := Lib.hid (T3.out.trans t4)
      have R4 := Lib.hid (t4.blk R3.out (by omega))
      have X4 := Lib.hid (t4.blk X3.out (by omega))
      have c1 := X4.out.cell 1
      have z1 := X4.out.frozen 1
      clear t4
      go_wp2_with fail
      go_meet
      have n1 : w.heap.size ≠ w1.heap.size := by omega
      exact ⟨T4.out.set sz1 gl _, R4.out.far (p := ⟨w1.heap.size, 1, none⟩) n1 _, X4.out.put 1 _⟩
    · have hL := HL.out
      rw [if_neg hl] at hL
      injection hL with h1 h2
      subst h1 h2
      have e0 : (lv == 0) = false := by simpa using hl
      go_wp2_with fail
      go_meet
      exact ⟨T3.out, R3.out, X3.out⟩
  case rest =>
    obtain ⟨t5, r5, x5⟩ := hcut
    have T5 := Lib.hid t5
    have R5 := Lib.hid r5
    have X5 := Lib.hid x5
    clear t5 r5 x5 T3 R3 X3 HL l1 l2 KR1
    go_wp2_with fail
    refine (KN4.out _ T5.out.src).mono ?_
    rintro e w6 ⟨rfl, t6⟩
    have T6 := Lib.hid (T5.out.trans t6)
    have R6 := Lib.hid (t6.blk R5.out (by omega))
    have X6 := Lib.hid (t6.blk X5.out (by omega))
    have xl6 := X6.out.lt
    clear t6 T5 R5 X5 KN4
    have rl6 : w.heap.size < w6.heap.size := R6.out.lt
    have xl6 : w1.heap.size < w6.heap.size := X6.out.lt
    have n1 : w.heap.size ≠ w1.heap.size := by omega
    subst hq
    have KR := Lib.hid (range_any w6 B g ac c T k5 1 3 T6.out.src (by decide) (by decide) (by decide))
    have HR := Lib.hid (HF.out.trans (show bodyF T sk lab 6 k5 = (⟨5, lab, sk, [], zeroX, zeroX, (rangeF T k5 1 3).1⟩, (rangeF T k5 1 3).2) from rfl))
    generalize rangeF T k5 1 3 = s at *
    obtain ⟨lr, k7⟩ := s
    dsimp only at *
    clear HF
    go_wp2_with fail
    refine KR.out.mono ?_
    rintro e w7 ⟨rfl, t7⟩
    have T7 := Lib.hid (T6.out.trans t7)
    have R7 := Lib.hid (t7.blk R6.out (by omega))
    have X7 := Lib.hid (t7.blk X6.out (by omega))
    have c0 := X7.out.cell 0
    have z0 := X7.out.frozen 0
    have c10 := X7.out.cell 10
    have z10 := X7.out.frozen 10
    clear t7 KR
    go_upto_region 30 with fail
    clear c0 z0 c10 z10
    refine on_told (fun W => Took B g ac c T w k7 W ∧ Blk W w.heap.size 37 #[.int .i64 0, .int .i64 0, .bool false, .slice none 0 0, .int .i64 0, .int .i64 0, .slice none 0 0, .int .i64 0, .int .i64 0, .slice none 0 0, .int .i64 0] ∧ Blk W w1.heap.size 37 #[.int .i64 5, .int .i64 lab, .bool sk, .slice none 0 0, .int .i64 0, .int .i64 0, .slice none 0 0, .int .i64 0, .int .i64 0, .slice none 0 0, .int .i64 lr] ∧ BlkP (fun b => w6.heap.size ≤ b) W ⟨5, lab, sk, [], zeroX, zeroX, lr⟩ plN) ⟨(T7.out.set sz1 gl _).set sz1 gl _, (R7.out.far (p := ⟨w1.heap.size, 0, none⟩) n1 _).far (p := ⟨w1.heap.size, 10, none⟩) n1 _, (X7.out.put 0 _).put 10 _, BlkP.plain _ _ _ _ _ _ _ _ _ _⟩ ?_
    rintro W8 ⟨t8, r8, x8, b8⟩
    have T8 := Lib.hid t8
    have R8 := Lib.hid r8
    have B8 := Lib.hid b8
    have bx : W8.heap[w1.heap.size]? = some (.cells #[.int .i64 5, .int .i64 lab, .bool sk, .slice none 0 0, .int .i64 0, .int .i64 0, .slice none 0 0, .int .i64 0, .int .i64 0, .slice none 0 0, .int .i64 lr] 37 (0, 0)) := x8
    have br : W8.heap[w.heap.size]? = some (.cells #[.int .i64 0, .int .i64 0, .bool false, .slice none 0 0, .int .i64 0, .int .i64 0, .slice none 0 0, .int .i64 0, .int .i64 0, .slice none 0 0, .int .i64 0] 37 (0, 0)) := r8
    clear t8 r8 b8 x8 T6 R6 X6
    go_wp2_with (first
      | ((with_reducible refine go_load_row 37 (.tmp 3) w1.heap.size 37 #[.int .i64 5, .int .i64 lab, .bool sk, .slice none 0 0, .int .i64 0, .int .i64 0, .slice none 0 0, .int .i64 0, .int .i64 0, .slice none 0 0, .int .i64 lr] _ rfl bx Try.underlying37 rfl (by kernel_rfl) ?_))
      | ((with_reducible refine go_store_row 37 (.tmp 2) (.tmp 95) w.heap.size #[.int .i64 5, .int .i64 lab, .bool sk, .slice none 0 0, .int .i64 0, .int .i64 0, .slice none 0 0, .int .i64 0, .int .i64 0, .slice none 0 0, .int .i64 lr] 37 #[.int .i64 0, .int .i64 0, .bool false, .slice none 0 0, .int .i64 0, .int .i64 0, .slice none 0 0, .int .i64 0, .int .i64 0, .slice none 0 0, .int .i64 0] (by with_unfolding_all rfl) (by with_unfolding_all rfl) br (by with_unfolding_all kernel_rfl) (by with_unfolding_all rfl) (by with_unfolding_all rfl) ?_)))
    refine bodyPost_ret (results_cell_row rfl _ _ w.heap.size 37 #[.int .i64 5, .int .i64 lab, .bool sk, .slice none 0 0, .int .i64 0, .int .i64 0, .slice none 0 0, .int .i64 0, .int .i64 0, .slice none 0 0, .int .i64 lr] (0, 0) _ rfl (show Blk _ _ _ _ from R8.out.setRow _) Try.underlying37 rfl (by kernel_rfl)) rfl ?_
    rw [HR.out]
    exact ⟨plN, rfl, (B8.out.keep fun b hb _ => setRow_other _ _ _ _ (Nat.ne_of_gt (Nat.lt_of_lt_of_le rl6 hb))).imp fun b hb _ => Nat.le_trans (Nat.le_of_lt rl6) hb, T8.out.setRow (Nat.le_refl _) gl _⟩
end Go.Proofs.Yteiogjgmedikhaa

namespace Go.Proofs.Yteiogjgmedikhaa
open Go Go.RowKit
set_option linter.unusedVariables false

set_option maxRecDepth 100000 in
set_option maxHeartbeats 1000000 in
theorem block_set (w : World) (B g : Nat) (ac : Option Addr) (c : Nat) (T : Tp) (k : Nat) (r : BlkL × Nat) (hs : Src w B g ac c T k)
    (hF : r = bodyF T ((nextF T k 8).1 == 0) (labelF T (nextF T k 8).2).1 (nextF T (labelF T (nextF T k 8).2).2 12).1 (nextF T (labelF T (nextF T k 8).2).2 12).2) (hq : (nextF T (labelF T (nextF T k 8).2).2 12).1 ≤ 1) :
    Calls Try.prog 35 #[.pointer (some ⟨g, 0, none⟩)] w (BlockPost B g ac c T w r) := by
  have gl := hs.lt
  have t0 := (Took.start hs).alloc (.cells #[.int .i64 0, .int .i64 0, .bool false, .slice none 0 0, .int .i64 0, .int .i64 0, .slice none 0 0, .int .i64 0, .int .i64 0, .slice none 0 0, .int .i64 0] 37)
  have r0 := Blk.new w 37 #[.int .i64 0, .int .i64 0, .bool false, .slice none 0 0, .int .i64 0, .int .i64 0, .slice none 0 0, .int .i64 0, .int .i64 0, .slice none 0 0, .int .i64 0]
  have KN := Lib.hid (next_any _ B g ac c T k 8 t0.src (by decide) (by decide))
  have T0 := Lib.hid t0
  have R0 := Lib.hid r0
  clear t0 r0
  generalize nextF T k 8 = s at *
  obtain ⟨v, k1⟩ := s
  dsimp only at *
  have KN1 := Lib.hid (fun W hW => next_any W B g ac c T k1 3 hW (by decide) (by decide))
  have KR1 := Lib.hid (fun W hW => range_any W B g ac c T (nextF T k1 3).2 1 6 hW (by decide) (by decide) (by decide))
  have hL := labelF.eq_1 T k1
  have l1 := rangeF_lo T (nextF T k1 3).2 (lo := 1) (hi := 6) (by decide)
  have l2 := rangeF_hi T (nextF T k1 3).2 (lo := 1) (hi := 6) (by decide)
  generalize nextF T k1 3 = s at *
  obtain ⟨lv, k2⟩ := s
  dsimp only at *
  generalize rangeF T k2 1 6 = s at *
  obtain ⟨lr, k3⟩ := s
  dsimp only at *
  have HL := Lib.hid hL
  clear hL hs
  generalize labelF T k1 = s at *
  obtain ⟨lab, k4⟩ := s
  dsimp only at *
  have KN4 := Lib.hid (fun W hW => next_any W B g ac c T k4 12 hW (by decide) (by decide))
  have q1 := nextF_lo T k4 (m := 12) (by decide)
  have q2 := nextF_hi T k4 (m := 12) (by decide)
  generalize nextF T k4 12 = s at *
  obtain ⟨qv, k5⟩ := s
  dsimp only at *
  generalize hsk : (v == 0) = sk at *
  have HF := Lib.hid hF
  clear hF
  have HSK := Lib.hid hsk
  clear hsk
  go_enter Try.func35, Try.ntmps35
  go_wp2_with fail
  refine KN.out.mono ?_
  rintro e w1 ⟨rfl, t1⟩
  have r1 := t1.blk R0.out (by omega)
  have T1 := Lib.hid (T0.out.trans t1)
  have R1 := Lib.hid r1
  clear t1 r1 KN T0 R0
  have rl1 := R1.out.lt
  have sz1 := T1.out.size
  have hsk := HSK.out
  go_wp2_with fail
  clear hsk
  have T2 := Lib.hid (T1.out.alloc (.cells #[.int .i64 0, .int .i64 0, .bool sk, .slice none 0 0, .int .i64 0, .int .i64 0, .slice none 0 0, .int .i64 0, .int .i64 0, .slice none 0 0, .int .i64 0] 37))
  have R2 := Lib.hid (R1.out.alloc (.cells #[.int .i64 0, .int .i64 0, .bool sk, .slice none 0 0, .int .i64 0, .int .i64 0, .slice none 0 0, .int .i64 0, .int .i64 0, .slice none 0 0, .int .i64 0] 37))
  have X2 := Lib.hid (Blk.new w1 37 #[.int .i64 0, .int .i64 0, .bool sk, .slice none 0 0, .int .i64 0, .int .i64 0, .slice none 0 0, .int .i64 0, .int .i64 0, .slice none 0 0, .int .i64 0])
  have g2 : (w1.alloc (.cells #[.int .i64 0, .int .i64 0, .bool sk, .slice none 0 0, .int .i64 0, .int .i64 0, .slice none 0 0, .int .i64 0, .int .i64 0, .slice none 0 0, .int .i64 0] 37)).heap.size = w1.heap.size + 1 := by simp
  clear T1 R1
  generalize (w1.alloc (.cells #[.int .i64 0, .int .i64 0, .bool sk, .slice none 0 0, .int .i64 0, .int .i64 0, .slice none 0 0, .int .i64 0, .int .i64 0, .slice none 0 0, .int .i64 0] 37)) = W2 at *
  refine (KN1.out _ T2.out.src).mono ?_
  rintro e w3 ⟨rfl, t3⟩
  have T3 := Lib.hid (T2.out.trans t3)
  have R3 := Lib.hid (t3.blk R2.out (by omega))
  have X3 := Lib.hid (t3.blk X2.out (by omega))
  have sz3 := t3.size
  clear t3 T2 R2 X2 KN1
  go_upto_if 12 with fail
  go_cut [] (fun wx => Took B g ac c T w k4 wx ∧ Blk wx w.heap.size 37 #[.int .i64 0, .int .i64 0, .bool false, .slice none 0 0, .int .i64 0, .int .i64 0, .slice none 0 0, .int .i64 0, .int .i64 0, .slice none 0 0, .int .i64 0] ∧ Blk wx w1.heap.size 37 #[.int .i64 0, .int .i64 lab, .bool sk, .slice none 0 0, .int .i64 0, .int .i64 0, .slice none 0 0, .int .i64 0, .int .i64 0, .slice none 0 0, .int .i64 0])
  case first =>
    by_cases hl : lv = 0
    · subst hl
      have hL := HL.out
      rw [if_pos rfl] at hL
      injection hL with h1 h2
      subst h1 h2
      go_wp2_with fail
      refine (KR1.out _ T3.out.src).mono ?_
      rintro e w4 ⟨rfl, t4⟩
      have T4 := Lib.hid (T3.out.trans t4)
      have R4 := Lib.hid (t4.blk R3.out (by omega))
      have X4 := Lib.hid (t4.blk X3.out (by omega))
      have c1 := X4.out.cell 1
      have z1 := X4.out.frozen 1
      clear t4
      go_wp2_with fail
      go_meet
      have n1 : w.heap.size ≠ w1.heap.size := by omega
      exact ⟨T4.out.set sz1 gl _, R4.out.far (p := ⟨w1.heap.size, 1, none⟩) n1 _, X4.out.put 1 _⟩
    · have hL := HL.out
      rw [if_neg hl] at hL
      injection hL with h1 h2
      subst h1 h2
      have e0 : (lv == 0) = false := by simpa using hl
      go_wp2_with fail
      go_meet
      exact ⟨T3.out, R3.out, X3.out⟩
  case rest =>
    obtain ⟨t5, r5, x5⟩ := hcut
    have T5 := Lib.hid t5
    have R5 := Lib.hid r5
    have X5 := Lib.hid x5
    clear t5 r5 x5 T3 R3 X3 HL l1 l2 KR1
    go_wp2_with fail
    refine (KN4.out _ T5.out.src).mono ?_
    rintro e w6 ⟨rfl, t6⟩
    have T6 := Lib.hid (T5.out.trans t6)
    have R6 := Lib.hid (t6.blk R5.out (by omega))
    have X6 := Lib.hid (t6.blk X5.out (by omega))
    have xl6 := X6.out.lt
    clear t6 T5 R5 X5 KN4
    have rl6 : w.heap.size < w6.heap.size := R6.out.lt
    have xl6 : w1.heap.size < w6.heap.size := X6.out.lt
    have n1 : w.heap.size ≠ w1.heap.size := by omega
    have q01 : qv = 0 ∨ qv = 1 := by omega
    have HR := Lib.hid (HF.out.trans (if_pos hq))
    clear hq HF q1 q2
    have KV := Lib.hid (fun W hW => variable_any W B g ac c T k5 hW)
    have vb := variableF_bd T k5
    generalize variableF T k5 = s at *
    obtain ⟨vn, k7⟩ := s
    dsimp only at *
    have ke := fun W hW => expr_any 4 W B g ac c T k7 (by decide) hW
    rw [show ((4 : Nat) : Int) = 4 from rfl] at ke
    generalize exprF T 4 k7 = y at *
    obtain ⟨⟨yo, yn, yk⟩, k9⟩ := y
    dsimp only at *
    have KE := Lib.hid ke
    clear ke
    rcases q01 with rfl | rfl
    all_goals
      have c0 := X6.out.cell 0
      have z0 := X6.out.frozen 0
      go_wp2_with fail
      clear c0 z0
      refine calls_told (fun W => Took B g ac c T w k5 W ∧ Blk W w.heap.size 37 #[.int .i64 0, .int .i64 0, .bool false, .slice none 0 0, .int .i64 0, .int .i64 0, .slice none 0 0, .int .i64 0, .int .i64 0, .slice none 0 0, .int .i64 0] ∧ Blk W w1.heap.size 37 #[.int .i64 1, .int .i64 lab, .bool sk, .slice none 0 0, .int .i64 0, .int .i64 0, .slice none 0 0, .int .i64 0, .int .i64 0, .slice none 0 0, .int .i64 0] ∧ w6.heap.size ≤ W.heap.size) ⟨(T6.out.set sz1 gl _), (R6.out.far (p := ⟨w1.heap.size, 0, none⟩) n1 _), (X6.out.put 0 _), by simp⟩ ?_
      rintro W7 ⟨t7, r7, x7, s7⟩
      have T7 := Lib.hid t7
      have R7 := Lib.hid r7
      have X7 := Lib.hid x7
      clear t7 r7 x7
      refine (KV.out _ T7.out.src).mono ?_
      rintro e w8 ⟨rfl, t8⟩
      have T8 := Lib.hid (T7.out.trans t8)
      have R8 := Lib.hid (t8.blk R7.out (by omega))
      have X8 := Lib.hid (t8.blk X7.out (by omega))
      have s8 := t8.size
      have c4 := X8.out.cell 4
      have z4 := X8.out.frozen 4
      have c5 := X8.out.cell 5
      have z5 := X8.out.frozen 5
      have c6 := X8.out.cell 6
      have z6 := X8.out.frozen 6
      go_wp2_with fail
      clear c4 z4 c5 z5 c6 z6
      refine calls_told (fun W => Took B g ac c T w k7 W ∧ Blk W w.heap.size 37 #[.int .i64 0, .int .i64 0, .bool false, .slice none 0 0, .int .i64 0, .int .i64 0, .slice none 0 0, .int .i64 0, .int .i64 0, .slice none 0 0, .int .i64 0] ∧ Blk W w1.heap.size 37 #[.int .i64 1, .int .i64 lab, .bool sk, .slice none 0 0, .int .i64 0, .int .i64 (vn * 1000000), .slice none 0 0, .int .i64 0, .int .i64 0, .slice none 0 0, .int .i64 0] ∧ w6.heap.size ≤ W.heap.size) ⟨(((T8.out.set sz1 gl _).set sz1 gl _).set sz1 gl _), (((R8.out.far (p := ⟨w1.heap.size, 4, none⟩) n1 _).far (p := ⟨w1.heap.size, 5, none⟩) n1 _).far (p := ⟨w1.heap.size, 6, none⟩) n1 _), (((X8.out.put 4 _).put 5 _).put 6 _), by simp; omega⟩ ?_
      rintro W9 ⟨t9, r9, x9, s9⟩
      have T9 := Lib.hid t9
      have R9 := Lib.hid r9
      have X9 := Lib.hid x9
      clear t9 r9 x9
      refine (KE.out _ T9.out.src).mono ?_
      rintro e w10 ⟨a9, c9, rfl, hE, t10⟩
      dsimp only [Ex.op, Ex.n, Ex.kids] at *
      have T10 := Lib.hid (T9.out.trans t10)
      have R10 := Lib.hid (t10.blk R9.out (by omega))
      have X10 := Lib.hid (t10.blk X9.out (by omega))
      have s10 := t10.size
      have E10 := Lib.hid hE
      clear hE
      have c7 := X10.out.cell 7
      have z7 := X10.out.frozen 7
      have c8 := X10.out.cell 8
      have z8 := X10.out.frozen 8
      have c9 := X10.out.cell 9
      have z9 := X10.out.frozen 9
      go_upto_region 30 with fail
      clear c7 z7 c8 z8 c9 z9
      have n9 : ¬ W9.heap.size ≤ w1.heap.size := by omega
      have E11 := Lib.hid ((((E10.out.set (r := ⟨w1.heap.size, 7, none⟩) n9 (.int .i64 yo)).set (r := ⟨w1.heap.size, 8, none⟩) n9 (.int .i64 yn)).set (r := ⟨w1.heap.size, 9, none⟩) n9 (.slice a9 yk.length c9)).imp (q := fun b => w6.heap.size ≤ b) fun b hb _ => Nat.le_trans s9 hb)
      refine on_told (fun W => Took B g ac c T w k9 W ∧ Blk W w.heap.size 37 #[.int .i64 0, .int .i64 0, .bool false, .slice none 0 0, .int .i64 0, .int .i64 0, .slice none 0 0, .int .i64 0, .int .i64 0, .slice none 0 0, .int .i64 0] ∧ Blk W w1.heap.size 37 #[.int .i64 1, .int .i64 lab, .bool sk, .slice none 0 0, .int .i64 0, .int .i64 (vn * 1000000), .slice none 0 0, .int .i64 yo, .int .i64 yn, .slice a9 yk.length c9, .int .i64 0] ∧ BlkP (fun b => w6.heap.size ≤ b) W ⟨1, lab, sk, [], leafE (vn * 1000000), .mk yo yn yk, 0⟩ ⟨none, 0, fun _ => ⟨none, 0⟩, ⟨none, 0⟩, ⟨a9, c9⟩⟩) ⟨(((T10.out.set sz1 gl _).set sz1 gl _).set sz1 gl _), (((R10.out.far (p := ⟨w1.heap.size, 7, none⟩) n1 _).far (p := ⟨w1.heap.size, 8, none⟩) n1 _).far (p := ⟨w1.heap.size, 9, none⟩) n1 _), (((X10.out.put 7 _).put 8 _).put 9 _), ⟨⟨.inl rfl, fun i x h => by simp at h, by simp⟩, ExP.leaf _ _ _ _, E11.out⟩⟩ ?_
      rintro W8 ⟨t8, r8, x8, b8⟩
      have T8 := Lib.hid t8
      have R8 := Lib.hid r8
      have B8 := Lib.hid b8
      have bx : W8.heap[w1.heap.size]? = some (.cells #[.int .i64 1, .int .i64 lab, .bool sk, .slice none 0 0, .int .i64 0, .int .i64 (vn * 1000000), .slice none 0 0, .int .i64 yo, .int .i64 yn, .slice a9 yk.length c9, .int .i64 0] 37 (0, 0)) := x8
      have br : W8.heap[w.heap.size]? = some (.cells #[.int .i64 0, .int .i64 0, .bool false, .slice none 0 0, .int .i64 0, .int .i64 0, .slice none 0 0, .int .i64 0, .int .i64 0, .slice none 0 0, .int .i64 0] 37 (0, 0)) := r8
      clear t8 r8 b8 x8 T6 R6 X6
      go_wp2_with (first
        | ((with_reducible refine go_load_row 37 (.tmp 3) w1.heap.size 37 #[.int .i64 1, .int .i64 lab, .bool sk, .slice none 0 0, .int .i64 0, .int .i64 (vn * 1000000), .slice none 0 0, .int .i64 yo, .int .i64 yn, .slice a9 yk.length c9, .int .i64 0] _ rfl bx Try.underlying37 rfl (by kernel_rfl) ?_))
        | ((with_reducible refine go_store_row 37 (.tmp 2) (.tmp 95) w.heap.size #[.int .i64 1, .int .i64 lab, .bool sk, .slice none 0 0, .int .i64 0, .int .i64 (vn * 1000000), .slice none 0 0, .int .i64 yo, .int .i64 yn, .slice a9 yk.length c9, .int .i64 0] 37 #[.int .i64 0, .int .i64 0, .bool false, .slice none 0 0, .int .i64 0, .int .i64 0, .slice none 0 0, .int .i64 0, .int .i64 0, .slice none 0 0, .int .i64 0] (by with_unfolding_all rfl) (by with_unfolding_all rfl) br (by with_unfolding_all kernel_rfl) (by with_unfolding_all rfl) (by with_unfolding_all rfl) ?_)))
      refine bodyPost_ret (results_cell_row rfl _ _ w.heap.size 37 #[.int .i64 1, .int .i64 lab, .bool sk, .slice none 0 0, .int .i64 0, .int .i64 (vn * 1000000), .slice none 0 0, .int .i64 yo, .int .i64 yn, .slice a9 yk.length c9, .int .i64 0] (0, 0) _ rfl (show Blk _ _ _ _ from R8.out.setRow _) Try.underlying37 rfl (by kernel_rfl)) rfl ?_
      rw [HR.out]
      exact ⟨⟨none, 0, fun _ => ⟨none, 0⟩, ⟨none, 0⟩, ⟨a9, c9⟩⟩, rfl, (B8.out.keep fun b hb _ => setRow_other _ _ _ _ (Nat.ne_of_gt (Nat.lt_of_lt_of_le rl6 hb))).imp fun b hb _ => Nat.le_trans (Nat.le_of_lt rl6) hb, T8.out.setRow (Nat.le_refl _) gl _⟩
set_option maxRecDepth 100000 in
set_option maxHeartbeats 1000000 in
theorem block_goto (w : World) (B g : Nat) (ac : Option Addr) (c : Nat) (T : Tp) (k : Nat) (r : BlkL × Nat) (hs : Src w B g ac c T k)
    (hF : r = bodyF T ((nextF T k 8).1 == 0) (labelF T (nextF T k 8).2).1 (nextF T (labelF T (nextF T k 8).2).2 12).1 (nextF T (labelF T (nextF T k 8).2).2 12).2) (hq : (nextF T (labelF T (nextF T k 8).2).2 12).1 = 2) :
    Calls Try.prog 35 #[.pointer (some ⟨g, 0, none⟩)] w (BlockPost B g ac c T w r) := by
  have gl := hs.lt
  have t0 := (Took.start hs).alloc (.cells #[.int .i64 0, .int .i64 0, .bool false, .slice none 0 0, .int .i64 0, .int .i64 0, .slice none 0 0, .int .i64 0, .int .i64 0, .slice none 0 0, .int .i64 0] 37)
  have r0 := Blk.new w 37 #[.int .i64 0, .int .i64 0, .bool false, .slice none 0 0, .int .i64 0, .int .i64 0, .slice none 0 0, .int .i64 0, .int .i64 0, .slice none 0 0, .int .i64 0]
  have KN := Lib.hid (next_any _ B g ac c T k 8 t0.src (by decide) (by decide))
  have T0 := Lib.hid t0
  have R0 := Lib.hid r0
  clear t0 r0
  generalize nextF T k 8 = s at *
  obtain ⟨v, k1⟩ := s
  dsimp only at *
  have KN1 := Lib.hid (fun W hW => next_any W B g ac c T k1 3 hW (by decide) (by decide))
  have KR1 := Lib.hid (fun W hW => range_any W B g ac c T (nextF T k1 3).2 1 6 hW (by decide) (by decide) (by decide))
  have hL := labelF.eq_1 T k1
  have l1 := rangeF_lo T (nextF T k1 3).2 (lo := 1) (hi := 6) (by decide)
  have l2 := rangeF_hi T (nextF T k1 3).2 (lo := 1) (hi := 6) (by decide)
  generalize nextF T k1 3 = s at *
  obtain ⟨lv, k2⟩ := s
  dsimp only at *
  generalize rangeF T k2 1 6 = s at *
  obtain ⟨lr, k3⟩ := s
  dsimp only at *
  have HL := Lib.hid hL
  clear hL hs
  generalize labelF T k1 = s at *
  obtain ⟨lab, k4⟩ := s
  dsimp only at *
  have KN4 := Lib.hid (fun W hW => next_any W B g ac c T k4 12 hW (by decide) (by decide))
  have q1 := nextF_lo T k4 (m := 12) (by decide)
  have q2 := nextF_hi T k4 (m := 12) (by decide)
  generalize nextF T k4 12 = s at *
  obtain ⟨qv, k5⟩ := s
  dsimp only at *
  generalize hsk : (v == 0) = sk at *
  have HF := Lib.hid hF
  clear hF
  have HSK := Lib.hid hsk
  clear hsk
  go_enter Try.func35, Try.ntmps35
  go_wp2_with fail
  refine KN.out.mono ?_
  rintro e w1 ⟨rfl, t1⟩
  have r1 := t1.blk R0.out (by omega)
  have T1 := Lib.hid (T0.out.trans t1)
  have R1 := Lib.hid r1
  clear t1 r1 KN T0 R0
  have rl1 := R1.out.lt
  have sz1 := T1.out.size
  have hsk := HSK.out
  go_wp2_with fail
  clear hsk
  have T2 := Lib.hid (T1.out.alloc (.cells #[.int .i64 0, .int .i64 0, .bool sk, .slice none 0 0, .int .i64 0, .int .i64 0, .slice none 0 0, .int .i64 0, .int .i64 0, .slice none 0 0, .int .i64 0] 37))
  have R2 := Lib.hid (R1.out.alloc (.cells #[.int .i64 0, .int .i64 0, .bool sk, .slice none 0 0, .int .i64 0, .int .i64 0, .slice none 0 0, .int .i64 0, .int .i64 0, .slice none 0 0, .int .i64 0] 37))
  have X2 := Lib.hid (Blk.new w1 37 #[.int .i64 0, .int .i64 0, .bool sk, .slice none 0 0, .int .i64 0, .int .i64 0, .slice none 0 0, .int .i64 0, .int .i64 0, .slice none 0 0, .int .i64 0])
  have g2 : (w1.alloc (.cells #[.int .i64 0, .int .i64 0, .bool sk, .slice none 0 0, .int .i64 0, .int .i64 0, .slice none 0 0, .int .i64 0, .int .i64 0, .slice none 0 0, .int .i64 0] 37)).heap.size = w1.heap.size + 1 := by simp
  clear T1 R1
  generalize (w1.alloc (.cells #[.int .i64 0, .int .i64 0, .bool sk, .slice none 0 0, .int .i64 0, .int .i64 0, .slice none 0 0, .int .i64 0, .int .i64 0, .slice none 0 0, .int .i64 0] 37)) = W2 at *
  refine (KN1.out _ T2.out.src).mono ?_
  rintro e w3 ⟨rfl, t3⟩
  have T3 := Lib.hid (T2.out.trans t3)
  have R3 := Lib.hid (t3.blk R2.out (by omega))
  have X3 := Lib.hid (t3.blk X2.out (by omega))
  have sz3 := t3.size
  clear t3 T2 R2 X2 KN1
  go_upto_if 12 with fail
  go_cut [] (fun wx => Took B g ac c T w k4 wx ∧ Blk wx w.heap.size 37 #[.int .i64 0, .int .i64 0, .bool false, .slice none 0 0, .int .i64 0, .int .i64 0, .slice none 0 0, .int .i64 0, .int .i64 0, .slice none 0 0, .int .i64 0] ∧ Blk wx w1.heap.size 37 #[.int .i64 0, .int .i64 lab, .bool sk, .slice none 0 0, .int .i64 0, .int .i64 0, .slice none 0 0, .int .i64 0, .int .i64 0, .slice none 0 0, .int .i64 0])
  case first =>
    by_cases hl : lv = 0
    · subst hl
      have hL := HL.out
      rw [if_pos rfl] at hL
      injection hL with h1 h2
      subst h1 h2
      go_wp2_with fail
      refine (KR1.out _ T3.out.src).mono ?_
      rintro e w4 ⟨rfl, t4⟩
      have T4 := Lib.hid (T3.out.trans t4)
      have R4 := Lib.hid (t4.blk R3.out (by omega))
      have X4 := Lib.hid (t4.blk X3.out (by omega))
      have c1 := X4.out.cell 1
      have z1 := X4.out.frozen 1
      clear t4
      go_wp2_with fail
      go_meet
      have n1 : w.heap.size ≠ w1.heap.size := by omega
      exact ⟨T4.out.set sz1 gl _, R4.out.far (p := ⟨w1.heap.size, 1, none⟩) n1 _, X4.out.put 1 _⟩
    · have hL := HL.out
      rw [if_neg hl] at hL
      injection hL with h1 h2
      subst h1 h2
      have e0 : (lv == 0) = false := by simpa using hl
      go_wp2_with fail
      go_meet
      exact ⟨T3.out, R3.out, X3.out⟩
  case rest =>
    obtain ⟨t5, r5, x5⟩ := hcut
    have T5 := Lib.hid t5
    have R5 := Lib.hid r5
    have X5 := Lib.hid x5
    clear t5 r5 x5 T3 R3 X3 HL l1 l2 KR1
    go_wp2_with fail
    refine (KN4.out _ T5.out.src).mono ?_
    rintro e w6 ⟨rfl, t6⟩
    have T6 := Lib.hid (T5.out.trans t6)
    have R6 := Lib.hid (t6.blk R5.out (by omega))
    have X6 := Lib.hid (t6.blk X5.out (by omega))
    have xl6 := X6.out.lt
    clear t6 T5 R5 X5 KN4
    have rl6 : w.heap.size < w6.heap.size := R6.out.lt
    have xl6 : w1.heap.size < w6.heap.size := X6.out.lt
    have n1 : w.heap.size ≠ w1.heap.size := by omega
    subst hq
    have HR := Lib.hid (HF.out.trans (show bodyF T sk lab 2 k5 = (⟨2, lab, sk, [], zeroX, leafE ((rangeF T k5 1 6).1 * 1000000), 0⟩, (rangeF T k5 1 6).2) from rfl))
    clear HF
    have KR := Lib.hid (fun W hW => range_any W B g ac c T k5 1 6 hW (by decide) (by decide) (by decide))
    have l1 := rangeF_lo T k5 (lo := 1) (hi := 6) (by decide)
    have l2 := rangeF_hi T k5 (lo := 1) (hi := 6) (by decide)
    generalize rangeF T k5 1 6 = s at *
    obtain ⟨vn, k7⟩ := s
    dsimp only at *
    have c0 := X6.out.cell 0
    have z0 := X6.out.frozen 0
    go_wp2_with fail
    clear c0 z0
    refine calls_told (fun W => Took B g ac c T w k5 W ∧ Blk W w.heap.size 37 #[.int .i64 0, .int .i64 0, .bool false, .slice none 0 0, .int .i64 0, .int .i64 0, .slice none 0 0, .int .i64 0, .int .i64 0, .slice none 0 0, .int .i64 0] ∧ Blk W w1.heap.size 37 #[.int .i64 2, .int .i64 lab, .bool sk, .slice none 0 0, .int .i64 0, .int .i64 0, .slice none 0 0, .int .i64 0, .int .i64 0, .slice none 0 0, .int .i64 0] ∧ w6.heap.size ≤ W.heap.size) ⟨(T6.out.set sz1 gl _), (R6.out.far (p := ⟨w1.heap.size, 0, none⟩) n1 _), (X6.out.put 0 _), by simp⟩ ?_
    rintro W7 ⟨t7, r7, x7, s7⟩
    have T7 := Lib.hid t7
    have R7 := Lib.hid r7
    have X7 := Lib.hid x7
    clear t7 r7 x7
    refine (KR.out _ T7.out.src).mono ?_
    rintro e w8 ⟨rfl, t8⟩
    have T8 := Lib.hid (T7.out.trans t8)
    have R8 := Lib.hid (t8.blk R7.out (by omega))
    have X8 := Lib.hid (t8.blk X7.out (by omega))
    have s8 := t8.size
    have c7 := X8.out.cell 7
    have z7 := X8.out.frozen 7
    have c8 := X8.out.cell 8
    have z8 := X8.out.frozen 8
    have c9 := X8.out.cell 9
    have z9 := X8.out.frozen 9
    go_upto_region 30 with fail
    clear c7 z7 c8 z8 c9 z9
    refine on_told (fun W => Took B g ac c T w k7 W ∧ Blk W w.heap.size 37 #[.int .i64 0, .int .i64 0, .bool false, .slice none 0 0, .int .i64 0, .int .i64 0, .slice none 0 0, .int .i64 0, .int .i64 0, .slice none 0 0, .int .i64 0] ∧ Blk W w1.heap.size 37 #[.int .i64 2, .int .i64 lab, .bool sk, .slice none 0 0, .int .i64 0, .int .i64 0, .slice none 0 0, .int .i64 0, .int .i64 (vn * 1000000), .slice none 0 0, .int .i64 0] ∧ BlkP (fun b => w6.heap.size ≤ b) W ⟨2, lab, sk, [], zeroX, leafE (vn * 1000000), 0⟩ plN) ⟨(((T8.out.set sz1 gl _).set sz1 gl _).set sz1 gl _), (((R8.out.far (p := ⟨w1.heap.size, 7, none⟩) n1 _).far (p := ⟨w1.heap.size, 8, none⟩) n1 _).far (p := ⟨w1.heap.size, 9, none⟩) n1 _), (((X8.out.put 7 _).put 8 _).put 9 _), BlkP.plain _ _ _ _ _ _ _ _ _ _⟩ ?_
    rintro W8 ⟨t8, r8, x8, b8⟩
    have T8 := Lib.hid t8
    have R8 := Lib.hid r8
    have B8 := Lib.hid b8
    have bx : W8.heap[w1.heap.size]? = some (.cells #[.int .i64 2, .int .i64 lab, .bool sk, .slice none 0 0, .int .i64 0, .int .i64 0, .slice none 0 0, .int .i64 0, .int .i64 (vn * 1000000), .slice none 0 0, .int .i64 0] 37 (0, 0)) := x8
    have br : W8.heap[w.heap.size]? = some (.cells #[.int .i64 0, .int .i64 0, .bool false, .slice none 0 0, .int .i64 0, .int .i64 0, .slice none 0 0, .int .i64 0, .int .i64 0, .slice none 0 0, .int .i64 0] 37 (0, 0)) := r8
    clear t8 r8 b8 x8 T6 R6 X6
    go_wp2_with (first
      | ((with_reducible refine go_load_row 37 (.tmp 3) w1.heap.size 37 #[.int .i64 2, .int .i64 lab, .bool sk, .slice none 0 0, .int .i64 0, .int .i64 0, .slice none 0 0, .int .i64 0, .int .i64 (vn * 1000000), .slice none 0 0, .int .i64 0] _ rfl bx Try.underlying37 rfl (by kernel_rfl) ?_))
      | ((with_reducible refine go_store_row 37 (.tmp 2) (.tmp 95) w.heap.size #[.int .i64 2, .int .i64 lab, .bool sk, .slice none 0 0, .int .i64 0, .int .i64 0, .slice none 0 0, .int .i64 0, .int .i64 (vn * 1000000), .slice none 0 0, .int .i64 0] 37 #[.int .i64 0, .int .i64 0, .bool false, .slice none 0 0, .int .i64 0, .int .i64 0, .slice none 0 0, .int .i64 0, .int .i64 0, .slice none 0 0, .int .i64 0] (by with_unfolding_all rfl) (by with_unfolding_all rfl) br (by with_unfolding_all kernel_rfl) (by with_unfolding_all rfl) (by with_unfolding_all rfl) ?_)))
    refine bodyPost_ret (results_cell_row rfl _ _ w.heap.size 37 #[.int .i64 2, .int .i64 lab, .bool sk, .slice none 0 0, .int .i64 0, .int .i64 0, .slice none 0 0, .int .i64 0, .int .i64 (vn * 1000000), .slice none 0 0, .int .i64 0] (0, 0) _ rfl (show Blk _ _ _ _ from R8.out.setRow _) Try.underlying37 rfl (by kernel_rfl)) rfl ?_
    rw [HR.out]
    exact ⟨plN, rfl, (B8.out.keep fun b hb _ => setRow_other _ _ _ _ (Nat.ne_of_gt (Nat.lt_of_lt_of_le rl6 hb))).imp fun b hb _ => Nat.le_trans (Nat.le_of_lt rl6) hb, T8.out.setRow (Nat.le_refl _) gl _⟩
set_option maxRecDepth 100000 in
set_option maxHeartbeats 1000000 in
theorem block_if (w : World) (B g : Nat) (ac : Option Addr) (c : Nat) (T : Tp) (k : Nat) (r : BlkL × Nat) (hs : Src w B g ac c T k)
    (hF : r = bodyF T ((nextF T k 8).1 == 0) (labelF T (nextF T k 8).2).1 (nextF T (labelF T (nextF T k 8).2).2 12).1 (nextF T (labelF T (nextF T k 8).2).2 12).2) (hq : 3 ≤ (nextF T (labelF T (nextF T k 8).2).2 12).1 ∧ (nextF T (labelF T (nextF T k 8).2).2 12).1 ≤ 4) :
    Calls Try.prog 35 #[.pointer (some ⟨g, 0, none⟩)] w (BlockPost B g ac c T w r) := by
  have gl := hs.lt
  have t0 := (Took.start hs).alloc (.cells #[.int .i64 0, .int .i64 0, .bool false, .slice none 0 0, .int .i64 0, .int .i64 0, .slice none 0 0, .int .i64 0, .int .i64 0, .slice none 0 0, .int .i64 0] 37)
  have r0 := Blk.new w 37 #[.int .i64 0, .int .i64 0, .bool false, .slice none 0 0, .int .i64 0, .int .i64 0, .slice none 0 0, .int .i64 0, .int .i64 0, .slice none 0 0, .int .i64 0]
  have KN := Lib.hid (next_any _ B g ac c T k 8 t0.src (by decide) (by decide))
  have T0 := Lib.hid t0
  have R0 := Lib.hid r0
  clear t0 r0
  generalize nextF T k 8 = s at *
  obtain ⟨v, k1⟩ := s
  dsimp only at *
  have KN1 := Lib.hid (fun W hW => next_any W B g ac c T k1 3 hW (by decide) (by decide))
  have KR1 := Lib.hid (fun W hW => range_any W B g ac c T (nextF T k1 3).2 1 6 hW (by decide) (by decide) (by decide))
  have hL := labelF.eq_1 T k1
  have l1 := rangeF_lo T (nextF T k1 3).2 (lo := 1) (hi := 6) (by decide)
  have l2 := rangeF_hi T (nextF T k1 3).2 (lo := 1) (hi := 6) (by decide)
  generalize nextF T k1 3 = s at *
  obtain ⟨lv, k2⟩ := s
  dsimp only at *
  generalize rangeF T k2 1 6 = s at *
  obtain ⟨lr, k3⟩ := s
  dsimp only at *
  have HL := Lib.hid hL
  clear hL hs
  generalize labelF T k1 = s at *
  obtain ⟨lab, k4⟩ := s
  dsimp only at *
  have KN4 := Lib.hid (fun W hW => next_any W B g ac c T k4 12 hW (by decide) (by decide))
  have q1 := nextF_lo T k4 (m := 12) (by decide)
  have q2 := nextF_hi T k4 (m := 12) (by decide)
  generalize nextF T k4 12 = s at *
  obtain ⟨qv, k5⟩ := s
  dsimp only at *
  generalize hsk : (v == 0) = sk at *
  have HF := Lib.hid hF
  clear hF
  have HSK := Lib.hid hsk
  clear hsk
  go_enter Try.func35, Try.ntmps35
  go_wp2_with fail
  refine KN.out.mono ?_
  rintro e w1 ⟨rfl, t1⟩
  have r1 := t1.blk R0.out (by omega)
  have T1 := Lib.hid (T0.out.trans t1)
  have R1 := Lib.hid r1
  clear t1 r1 KN T0 R0
  have rl1 := R1.out.lt
  have sz1 := T1.out.size
  have hsk := HSK.out
  go_wp2_with fail
  clear hsk
  have T2 := Lib.hid (T1.out.alloc (.cells #[.int .i64 0, .int .i64 0, .bool sk, .slice none 0 0, .int .i64 0, .int .i64 0, .slice none 0 0, .int .i64 0, .int .i64 0, .slice none 0 0, .int .i64 0] 37))
  have R2 := Lib.hid (R1.out.alloc (.cells #[.int .i64 0, .int .i64 0, .bool sk, .slice none 0 0, .int .i64 0, .int .i64 0, .slice none 0 0, .int .i64 0, .int .i64 0, .slice none 0 0, .int .i64 0] 37))
  have X2 := Lib.hid (Blk.new w1 37 #[.int .i64 0, .int .i64 0, .bool sk, .slice none 0 0, .int .i64 0, .int .i64 0, .slice none 0 0, .int .i64 0, .int .i64 0, .slice none 0 0, .int .i64 0])
  have g2 : (w1.alloc (.cells #[.int .i64 0, .int .i64 0, .bool sk, .slice none 0 0, .int .i64 0, .int .i64 0, .slice none 0 0, .int .i64 0, .int .i64 0, .slice none 0 0, .int .i64 0] 37)).heap.size = w1.heap.size + 1 := by simp
  clear T1 R1
  generalize (w1.alloc (.cells #[.int .i64 0, .int .i64 0, .bool sk, .slice none 0 0, .int .i64 0, .int .i64 0, .slice none 0 0, .int .i64 0, .int .i64 0, .slice none 0 0, .int .i64 0] 37)) = W2 at *
  refine (KN1.out _ T2.out.src).mono ?_
  rintro e w3 ⟨rfl, t3⟩
  have T3 := Lib.hid (T2.out.trans t3)
  have R3 := Lib.hid (t3.blk R2.out (by omega))
  have X3 := Lib.hid (t3.blk X2.out (by omega))
  have sz3 := t3.size
  clear t3 T2 R2 X2 KN1
  go_upto_if 12 with fail
  go_cut [] (fun wx => Took B g ac c T w k4 wx ∧ Blk wx w.heap.size 37 #[.int .i64 0, .int .i64 0, .bool false, .slice none 0 0, .int .i64 0, .int .i64 0, .slice none 0 0, .int .i64 0, .int .i64 0, .slice none 0 0, .int .i64 0] ∧ Blk wx w1.heap.size 37 #[.int .i64 0, .int .i64 lab, .bool sk, .slice none 0 0, .int .i64 0, .int .i64 0, .slice none 0 0, .int .i64 0, .int .i64 0, .slice none 0 0, .int .i64 0])
  case first =>
    by_cases hl : lv = 0
    · subst hl
      have hL := HL.out
      rw [if_pos rfl] at hL
      injection hL with h1 h2
      subst h1 h2
      go_wp2_with fail
      refine (KR1.out _ T3.out.src).mono ?_
      rintro e w4 ⟨rfl, t4⟩
      have T4 := Lib.hid (T3.out.trans t4)
      have R4 := Lib.hid (t4.blk R3.out (by omega))
      have X4 := Lib.hid (t4.blk X3.out (by omega))
      have c1 := X4.out.cell 1
      have z1 := X4.out.frozen 1
      clear t4
      go_wp2_with fail
      go_meet
      have n1 : w.heap.size ≠ w1.heap.size := by omega
      exact ⟨T4.out.set sz1 gl _, R4.out.far (p := ⟨w1.heap.size, 1, none⟩) n1 _, X4.out.put 1 _⟩
    · have hL := HL.out
      rw [if_neg hl] at hL
      injection hL with h1 h2
      subst h1 h2
      have e0 : (lv == 0) = false := by simpa using hl
      go_wp2_with fail
      go_meet
      exact ⟨T3.out, R3.out, X3.out⟩
  case rest =>
    obtain ⟨t5, r5, x5⟩ := hcut
    have T5 := Lib.hid t5
    have R5 := Lib.hid r5
    have X5 := Lib.hid x5
    clear t5 r5 x5 T3 R3 X3 HL l1 l2 KR1
    go_wp2_with fail
    refine (KN4.out _ T5.out.src).mono ?_
    rintro e w6 ⟨rfl, t6⟩
    have T6 := Lib.hid (T5.out.trans t6)
    have R6 := Lib.hid (t6.blk R5.out (by omega))
    have X6 := Lib.hid (t6.blk X5.out (by omega))
    have xl6 := X6.out.lt
    clear t6 T5 R5 X5 KN4
    have rl6 : w.heap.size < w6.heap.size := R6.out.lt
    have xl6 : w1.heap.size < w6.heap.size := X6.out.lt
    have n1 : w.heap.size ≠ w1.heap.size := by omega
    have q34 : qv = 3 ∨ qv = 4 := by omega
    have HR := Lib.hid (HF.out.trans (show bodyF T sk lab qv k5 = (⟨3, lab, sk, [], leafE ((rangeF T (exprF T 3 k5).2 1 6).1 * 1000000), (exprF T 3 k5).1, 0⟩, (rangeF T (exprF T 3 k5).2 1 6).2) from by unfold bodyF; rw [if_neg (by omega), if_neg (by omega), if_pos (by omega)]))
    clear hq HF q1 q2
    have ke := fun W hW => expr_any 3 W B g ac c T k5 (by decide) hW
    rw [show ((3 : Nat) : Int) = 3 from rfl] at ke
    generalize exprF T 3 k5 = y at *
    obtain ⟨⟨yo, yn, yk⟩, k7⟩ := y
    dsimp only at *
    have KE := Lib.hid ke
    clear ke
    have KR := Lib.hid (fun W hW => range_any W B g ac c T k7 1 6 hW (by decide) (by decide) (by decide))
    have l1 := rangeF_lo T k7 (lo := 1) (hi := 6) (by decide)
    have l2 := rangeF_hi T k7 (lo := 1) (hi := 6) (by decide)
    generalize rangeF T k7 1 6 = s at *
    obtain ⟨vn, k9⟩ := s
    dsimp only at *
    rcases q34 with rfl | rfl
    all_goals
      have c0 := X6.out.cell 0
      have z0 := X6.out.frozen 0
      go_wp2_with fail
      clear c0 z0
      refine calls_told (fun W => Took B g ac c T w k5 W ∧ Blk W w.heap.size 37 #[.int .i64 0, .int .i64 0, .bool false, .slice none 0 0, .int .i64 0, .int .i64 0, .slice none 0 0, .int .i64 0, .int .i64 0, .slice none 0 0, .int .i64 0] ∧ Blk W w1.heap.size 37 #[.int .i64 3, .int .i64 lab, .bool sk, .slice none 0 0, .int .i64 0, .int .i64 0, .slice none 0 0, .int .i64 0, .int .i64 0, .slice none 0 0, .int .i64 0] ∧ w6.heap.size ≤ W.heap.size) ⟨(T6.out.set sz1 gl _), (R6.out.far (p := ⟨w1.heap.size, 0, none⟩) n1 _), (X6.out.put 0 _), by simp⟩ ?_
      rintro W7 ⟨t7, r7, x7, s7⟩
      have T7 := Lib.hid t7
      have R7 := Lib.hid r7
      have X7 := Lib.hid x7
      clear t7 r7 x7
      refine (KE.out _ T7.out.src).mono ?_
      rintro e w8 ⟨a9, c9, rfl, hE, t8⟩
      dsimp only [Ex.op, Ex.n, Ex.kids] at *
      have T8 := Lib.hid (T7.out.trans t8)
      have R8 := Lib.hid (t8.blk R7.out (by omega))
      have X8 := Lib.hid (t8.blk X7.out (by omega))
      have s8 := t8.size
      have E8 := Lib.hid hE
      clear hE
      have c7 := X8.out.cell 7
      have z7 := X8.out.frozen 7
      have c8 := X8.out.cell 8
      have z8 := X8.out.frozen 8
      have c9 := X8.out.cell 9
      have z9 := X8.out.frozen 9
      go_wp2_with fail
      clear c7 z7 c8 z8 c9 z9
      have n9 : ¬ W7.heap.size ≤ w1.heap.size := by omega
      have E9 := Lib.hid ((((E8.out.set (r := ⟨w1.heap.size, 7, none⟩) n9 (.int .i64 yo)).set (r := ⟨w1.heap.size, 8, none⟩) n9 (.int .i64 yn)).set (r := ⟨w1.heap.size, 9, none⟩) n9 (.slice a9 yk.length c9)).imp (q := fun b => w6.heap.size ≤ b) fun b hb _ => Nat.le_trans s7 hb)
      refine calls_told (fun W => Took B g ac c T w k7 W ∧ Blk W w.heap.size 37 #[.int .i64 0, .int .i64 0, .bool false, .slice none 0 0, .int .i64 0, .int .i64 0, .slice none 0 0, .int .i64 0, .int .i64 0, .slice none 0 0, .int .i64 0] ∧ Blk W w1.heap.size 37 #[.int .i64 3, .int .i64 lab, .bool sk, .slice none 0 0, .int .i64 0, .int .i64 0, .slice none 0 0, .int .i64 yo, .int .i64 yn, .slice a9 yk.length c9, .int .i64 0] ∧ ExP (fun b => w6.heap.size ≤ b) W (.mk yo yn yk) a9 c9 ∧ w6.heap.size ≤ W.heap.size) ⟨(((T8.out.set sz1 gl _).set sz1 gl _).set sz1 gl _), (((R8.out.far (p := ⟨w1.heap.size, 7, none⟩) n1 _).far (p := ⟨w1.heap.size, 8, none⟩) n1 _).far (p := ⟨w1.heap.size, 9, none⟩) n1 _), (((X8.out.put 7 _).put 8 _).put 9 _), E9.out, by simp; omega⟩ ?_
      rintro W9 ⟨t9, r9, x9, e9, s9⟩
      have T9 := Lib.hid t9
      have R9 := Lib.hid r9
      have X9 := Lib.hid x9
      have E9 := Lib.hid e9
      clear t9 r9 x9 e9
      refine (KR.out _ T9.out.src).mono ?_
      rintro e w10 ⟨rfl, t10⟩
      have T10 := Lib.hid (T9.out.trans t10)
      have R10 := Lib.hid (t10.blk R9.out (by omega))
      have X10 := Lib.hid (t10.blk X9.out (by omega))
      have s10 := t10.size
      have n10 : ¬ w6.heap.size ≤ w1.heap.size := by omega
      have E10 := Lib.hid (((((E9.out.took t10 (by omega)).set (r := ⟨w1.heap.size, 4, none⟩) n10 (.int .i64 0)).set (r := ⟨w1.heap.size, 5, none⟩) n10 (.int .i64 (vn * 1000000))).set (r := ⟨w1.heap.size, 6, none⟩) n10 (.slice none 0 0)))
      have c4 := X10.out.cell 4
      have z4 := X10.out.frozen 4
      have c5 := X10.out.cell 5
      have z5 := X10.out.frozen 5
      have c6 := X10.out.cell 6
      have z6 := X10.out.frozen 6
      go_upto_region 30 with fail
      clear c4 z4 c5 z5 c6 z6
      refine on_told (fun W => Took B g ac c T w k9 W ∧ Blk W w.heap.size 37 #[.int .i64 0, .int .i64 0, .bool false, .slice none 0 0, .int .i64 0, .int .i64 0, .slice none 0 0, .int .i64 0, .int .i64 0, .slice none 0 0, .int .i64 0] ∧ Blk W w1.heap.size 37 #[.int .i64 3, .int .i64 lab, .bool sk, .slice none 0 0, .int .i64 0, .int .i64 (vn * 1000000), .slice none 0 0, .int .i64 yo, .int .i64 yn, .slice a9 yk.length c9, .int .i64 0] ∧ BlkP (fun b => w6.heap.size ≤ b) W ⟨3, lab, sk, [], leafE (vn * 1000000), .mk yo yn yk, 0⟩ ⟨none, 0, fun _ => ⟨none, 0⟩, ⟨none, 0⟩, ⟨a9, c9⟩⟩) ⟨(((T10.out.set sz1 gl _).set sz1 gl _).set sz1 gl _), (((R10.out.far (p := ⟨w1.heap.size, 4, none⟩) n1 _).far (p := ⟨w1.heap.size, 5, none⟩) n1 _).far (p := ⟨w1.heap.size, 6, none⟩) n1 _), (((X10.out.put 4 _).put 5 _).put 6 _), ⟨⟨.inl rfl, fun i x h => by simp at h, by simp⟩, ExP.leaf _ _ _ _, E10.out⟩⟩ ?_
      rintro W8 ⟨t8, r8, x8, b8⟩
      have T8 := Lib.hid t8
      have R8 := Lib.hid r8
      have B8 := Lib.hid b8
      have bx : W8.heap[w1.heap.size]? = some (.cells #[.int .i64 3, .int .i64 lab, .bool sk, .slice none 0 0, .int .i64 0, .int .i64 (vn * 1000000), .slice none 0 0, .int .i64 yo, .int .i64 yn, .slice a9 yk.length c9, .int .i64 0] 37 (0, 0)) := x8
      have br : W8.heap[w.heap.size]? = some (.cells #[.int .i64 0, .int .i64 0, .bool false, .slice none 0 0, .int .i64 0, .int .i64 0, .slice none 0 0, .int .i64 0, .int .i64 0, .slice none 0 0, .int .i64 0] 37 (0, 0)) := r8
      clear t8 r8 b8 x8 T6 R6 X6
      go_wp2_with (first
        | ((with_reducible refine go_load_row 37 (.tmp 3) w1.heap.size 37 #[.int .i64 3, .int .i64 lab, .bool sk, .slice none 0 0, .int .i64 0, .int .i64 (vn * 1000000), .slice none 0 0, .int .i64 yo, .int .i64 yn, .slice a9 yk.length c9, .int .i64 0] _ rfl bx Try.underlying37 rfl (by kernel_rfl) ?_))
        | ((with_reducible refine go_store_row 37 (.tmp 2) (.tmp 95) w.heap.size #[.int .i64 3, .int .i64 lab, .bool sk, .slice none 0 0, .int .i64 0, .int .i64 (vn * 1000000), .slice none 0 0, .int .i64 yo, .int .i64 yn, .slice a9 yk.length c9, .int .i64 0] 37 #[.int .i64 0, .int .i64 0, .bool false, .slice none 0 0, .int .i64 0, .int .i64 0, .slice none 0 0, .int .i64 0, .int .i64 0, .slice none 0 0, .int .i64 0] (by with_unfolding_all rfl) (by with_unfolding_all rfl) br (by with_unfolding_all kernel_rfl) (by with_unfolding_all rfl) (by with_unfolding_all rfl) ?_)))
      refine bodyPost_ret (results_cell_row rfl _ _ w.heap.size 37 #[.int .i64 3, .int .i64 lab, .bool sk, .slice none 0 0, .int .i64 0, .int .i64 (vn * 1000000), .slice none 0 0, .int .i64 yo, .int .i64 yn, .slice a9 yk.length c9, .int .i64 0] (0, 0) _ rfl (show Blk _ _ _ _ from R8.out.setRow _) Try.underlying37 rfl (by kernel_rfl)) rfl ?_
      rw [HR.out]
      exact ⟨⟨none, 0, fun _ => ⟨none, 0⟩, ⟨none, 0⟩, ⟨a9, c9⟩⟩, rfl, (B8.out.keep fun b hb _ => setRow_other _ _ _ _ (Nat.ne_of_gt (Nat.lt_of_lt_of_le rl6 hb))).imp fun b hb _ => Nat.le_trans (Nat.le_of_lt rl6) hb, T8.out.setRow (Nat.le_refl _) gl _⟩
set_option maxRecDepth 100000 in
set_option maxHeartbeats 1000000 in
theorem block_while (w : World) (B g : Nat) (ac : Option Addr) (c : Nat) (T : Tp) (k : Nat) (r : BlkL × Nat) (hs : Src w B g ac c T k)
    (hF : r = bodyF T ((nextF T k 8).1 == 0) (labelF T (nextF T k 8).2).1 (nextF T (labelF T (nextF T k 8).2).2 12).1 (nextF T (labelF T (nextF T k 8).2).2 12).2) (hq : (nextF T (labelF T (nextF T k 8).2).2 12).1 = 5) :
    Calls Try.prog 35 #[.pointer (some ⟨g, 0, none⟩)] w (BlockPost B g ac c T w r) := by
  have gl := hs.lt
  have t0 := (Took.start hs).alloc (.cells #[.int .i64 0, .int .i64 0, .bool false, .slice none 0 0, .int .i64 0, .int .i64 0, .slice none 0 0, .int .i64 0, .int .i64 0, .slice none 0 0, .int .i64 0] 37)
  have r0 := Blk.new w 37 #[.int .i64 0, .int .i64 0, .bool false, .slice none 0 0, .int .i64 0, .int .i64 0, .slice none 0 0, .int .i64 0, .int .i64 0, .slice none 0 0, .int .i64 0]
  have KN := Lib.hid (next_any _ B g ac c T k 8 t0.src (by decide) (by decide))
  have T0 := Lib.hid t0
  have R0 := Lib.hid r0
  clear t0 r0
  generalize nextF T k 8 = s at *
  obtain ⟨v, k1⟩ := s
  dsimp only at *
  have KN1 := Lib.hid (fun W hW => next_any W B g ac c T k1 3 hW (by decide) (by decide))
  have KR1 := Lib.hid (fun W hW => range_any W B g ac c T (nextF T k1 3).2 1 6 hW (by decide) (by decide) (by decide))
  have hL := labelF.eq_1 T k1
  have l1 := rangeF_lo T (nextF T k1 3).2 (lo := 1) (hi := 6) (by decide)
  have l2 := rangeF_hi T (nextF T k1 3).2 (lo := 1) (hi := 6) (by decide)
  generalize nextF T k1 3 = s at *
  obtain ⟨lv, k2⟩ := s
  dsimp only at *
  generalize rangeF T k2 1 6 = s at *
  obtain ⟨lr, k3⟩ := s
  dsimp only at *
  have HL := Lib.hid hL
  clear hL hs
  generalize labelF T k1 = s at *
  obtain ⟨lab, k4⟩ := s
  dsimp only at *
  have KN4 := Lib.hid (fun W hW => next_any W B g ac c T k4 12 hW (by decide) (by decide))
  have q1 := nextF_lo T k4 (m := 12) (by decide)
  have q2 := nextF_hi T k4 (m := 12) (by decide)
  generalize nextF T k4 12 = s at *
  obtain ⟨qv, k5⟩ := s
  dsimp only at *
  generalize hsk : (v == 0) = sk at *
  have HF := Lib.hid hF
  clear hF
  have HSK := Lib.hid hsk
  clear hsk
  go_enter Try.func35, Try.ntmps35
  go_wp2_with fail
  refine KN.out.mono ?_
  rintro e w1 ⟨rfl, t1⟩
  have r1 := t1.blk R0.out (by omega)
  have T1 := Lib.hid (T0.out.trans t1)
  have R1 := Lib.hid r1
  clear t1 r1 KN T0 R0
  have rl1 := R1.out.lt
  have sz1 := T1.out.size
  have hsk := HSK.out
  go_wp2_with fail
  clear hsk
  have T2 := Lib.hid (T1.out.alloc (.cells #[.int .i64 0, .int .i64 0, .bool sk, .slice none 0 0, .int .i64 0, .int .i64 0, .slice none 0 0, .int .i64 0, .int .i64 0, .slice none 0 0, .int .i64 0] 37))
  have R2 := Lib.hid (R1.out.alloc (.cells #[.int .i64 0, .int .i64 0, .bool sk, .slice none 0 0, .int .i64 0, .int .i64 0, .slice none 0 0, .int .i64 0, .int .i64 0, .slice none 0 0, .int .i64 0] 37))
  have X2 := Lib.hid (Blk.new w1 37 #[.int .i64 0, .int .i64 0, .bool sk, .slice none 0 0, .int .i64 0, .int .i64 0, .slice none 0 0, .int .i64 0, .int .i64 0, .slice none 0 0, .int .i64 0])
  have g2 : (w1.alloc (.cells #[.int .i64 0, .int .i64 0, .bool sk, .slice none 0 0, .int .i64 0, .int .i64 0, .slice none 0 0, .int .i64 0, .int .i64 0, .slice none 0 0, .int .i64 0] 37)).heap.size = w1.heap.size + 1 := by simp
  clear T1 R1
  generalize (w1.alloc (.cells #[.int .i64 0, .int .i64 0, .bool sk, .slice none 0 0, .int .i64 0, .int .i64 0, .slice none 0 0, .int .i64 0, .int .i64 0, .slice none 0 0, .int .i64 0] 37)) = W2 at *
  refine (KN1.out _ T2.out.src).mono ?_
  rintro e w3 ⟨rfl, t3⟩
  have T3 := Lib.hid (T2.out.trans t3)
  have R3 := Lib.hid (t3.blk R2.out (by omega))
  have X3 := Lib.hid (t3.blk X2.out (by omega))
  have sz3 := t3.size
  clear t3 T2 R2 X2 KN1
  go_upto_if 12 with fail
  go_cut [] (fun wx => Took B g ac c T w k4 wx ∧ Blk wx w.heap.size 37 #[.int .i64 0, .int .i64 0, .bool false, .slice none 0 0, .int .i64 0, .int .i64 0, .slice none 0 0, .int .i64 0, .int .i64 0, .slice none 0 0, .int .i64 0] ∧ Blk wx w1.heap.size 37 #[.int .i64 0, .int .i64 lab, .bool sk, .slice none 0 0, .int .i64 0, .int .i64 0, .slice none 0 0, .int .i64 0, .int .i64 0, .slice none 0 0, .int .i64 0])
  case first =>
    by_cases hl : lv = 0
    · subst hl
      have hL := HL.out
      rw [if_pos rfl] at hL
      injection hL with h1 h2
      subst h1 h2
      go_wp2_with fail
      refine (KR1.out _ T3.out.src).mono ?_
      rintro e w4 ⟨rfl, t4⟩
      have T4 := Lib.hid (T3.out.trans t4)
      have R4 := Lib.hid (t4.blk R3.out (by omega))
      have X4 := Lib.hid (t4.blk X3.out (by omega))
      have c1 := X4.out.cell 1
      have z1 := X4.out.frozen 1
      clear t4
      go_wp2_with fail
      go_meet
      have n1 : w.heap.size ≠ w1.heap.size := by omega
      exact ⟨T4.out.set sz1 gl _, R4.out.far (p := ⟨w1.heap.size, 1, none⟩) n1 _, X4.out.put 1 _⟩
    · have hL := HL.out
      rw [if_neg hl] at hL
      injection hL with h1 h2
      subst h1 h2
      have e0 : (lv == 0) = false := by simpa using hl
      go_wp2_with fail
      go_meet
      exact ⟨T3.out, R3.out, X3.out⟩
  case rest =>
    obtain ⟨t5, r5, x5⟩ := hcut
    have T5 := Lib.hid t5
    have R5 := Lib.hid r5
    have X5 := Lib.hid x5
    clear t5 r5 x5 T3 R3 X3 HL l1 l2 KR1
    go_wp2_with fail
    refine (KN4.out _ T5.out.src).mono ?_
    rintro e w6 ⟨rfl, t6⟩
    have T6 := Lib.hid (T5.out.trans t6)
    have R6 := Lib.hid (t6.blk R5.out (by omega))
    have X6 := Lib.hid (t6.blk X5.out (by omega))
    have xl6 := X6.out.lt
    clear t6 T5 R5 X5 KN4
    have rl6 : w.heap.size < w6.heap.size := R6.out.lt
    have xl6 : w1.heap.size < w6.heap.size := X6.out.lt
    have n1 : w.heap.size ≠ w1.heap.size := by omega
    subst hq
    have HR := Lib.hid (HF.out.trans (show bodyF T sk lab 5 k5 = (⟨4, lab, sk, [], zeroX, (exprF T 3 k5).1, (rangeF T (exprF T 3 k5).2 1 3).1⟩, (rangeF T (exprF T 3 k5).2 1 3).2) from rfl))
    clear HF
    have ke := fun W hW => expr_any 3 W B g ac c T k5 (by decide) hW
    rw [show ((3 : Nat) : Int) = 3 from rfl] at ke
    generalize exprF T 3 k5 = y at *
    obtain ⟨⟨yo, yn, yk⟩, k7⟩ := y
    dsimp only at *
    have KE := Lib.hid ke
    clear ke
    have KR := Lib.hid (fun W hW => range_any W B g ac c T k7 1 3 hW (by decide) (by decide) (by decide))
    have l1 := rangeF_lo T k7 (lo := 1) (hi := 3) (by decide)
    have l2 := rangeF_hi T k7 (lo := 1) (hi := 3) (by decide)
    generalize rangeF T k7 1 3 = s at *
    obtain ⟨vn, k9⟩ := s
    dsimp only at *
    go_wp2_with fail
    have s6 : w6.heap.size ≤ w6.heap.size := Nat.le_refl _
    refine (KE.out _ T6.out.src).mono ?_
    rintro e w8 ⟨a9, c9, rfl, hE, t8⟩
    dsimp only [Ex.op, Ex.n, Ex.kids] at *
    have T8 := Lib.hid (T6.out.trans t8)
    have R8 := Lib.hid (t8.blk R6.out (by omega))
    have X8 := Lib.hid (t8.blk X6.out (by omega))
    have s8 := t8.size
    have E8 := Lib.hid hE
    clear hE
    go_wp2_with fail
    refine (KR.out _ T8.out.src).mono ?_
    rintro e w10 ⟨rfl, t10⟩
    have T10 := Lib.hid (T8.out.trans t10)
    have R10 := Lib.hid (t10.blk R8.out (by omega))
    have X10 := Lib.hid (t10.blk X8.out (by omega))
    have s10 := t10.size
    have n9 : ¬ w6.heap.size ≤ w1.heap.size := by omega
    have E10 := Lib.hid (E8.out.took t10 (by omega))
    have c0 := X10.out.cell 0
    have z0 := X10.out.frozen 0
    have c7 := X10.out.cell 7
    have z7 := X10.out.frozen 7
    have c8 := X10.out.cell 8
    have z8 := X10.out.frozen 8
    have c9 := X10.out.cell 9
    have z9 := X10.out.frozen 9
    have c10 := X10.out.cell 10
    have z10 := X10.out.frozen 10
    go_upto_region 30 with fail
    clear c0 z0 c7 z7 c8 z8 c9 z9 c10 z10
    refine on_told (fun W => Took B g ac c T w k9 W ∧ Blk W w.heap.size 37 #[.int .i64 0, .int .i64 0, .bool false, .slice none 0 0, .int .i64 0, .int .i64 0, .slice none 0 0, .int .i64 0, .int .i64 0, .slice none 0 0, .int .i64 0] ∧ Blk W w1.heap.size 37 #[.int .i64 4, .int .i64 lab, .bool sk, .slice none 0 0, .int .i64 0, .int .i64 0, .slice none 0 0, .int .i64 yo, .int .i64 yn, .slice a9 yk.length c9, .int .i64 vn] ∧ BlkP (fun b => w6.heap.size ≤ b) W ⟨4, lab, sk, [], zeroX, .mk yo yn yk, vn⟩ ⟨none, 0, fun _ => ⟨none, 0⟩, ⟨none, 0⟩, ⟨a9, c9⟩⟩) ⟨(((((T10.out.set sz1 gl _).set sz1 gl _).set sz1 gl _).set sz1 gl _).set sz1 gl _), (((((R10.out.far (p := ⟨w1.heap.size, 0, none⟩) n1 _).far (p := ⟨w1.heap.size, 7, none⟩) n1 _).far (p := ⟨w1.heap.size, 8, none⟩) n1 _).far (p := ⟨w1.heap.size, 9, none⟩) n1 _).far (p := ⟨w1.heap.size, 10, none⟩) n1 _), (((((X10.out.put 0 _).put 7 _).put 8 _).put 9 _).put 10 _), ⟨⟨.inl rfl, fun i x h => by simp at h, by simp⟩, ExP.leaf _ _ _ _, (((((E10.out.set (r := ⟨w1.heap.size, 0, none⟩) n9 (.int .i64 4)).set (r := ⟨w1.heap.size, 7, none⟩) n9 (.int .i64 yo)).set (r := ⟨w1.heap.size, 8, none⟩) n9 (.int .i64 yn)).set (r := ⟨w1.heap.size, 9, none⟩) n9 (.slice a9 yk.length c9)).set (r := ⟨w1.heap.size, 10, none⟩) n9 (.int .i64 vn))⟩⟩ ?_
    rintro W8 ⟨t8, r8, x8, b8⟩
    have T8 := Lib.hid t8
    have R8 := Lib.hid r8
    have B8 := Lib.hid b8
    have bx : W8.heap[w1.heap.size]? = some (.cells #[.int .i64 4, .int .i64 lab, .bool sk, .slice none 0 0, .int .i64 0, .int .i64 0, .slice none 0 0, .int .i64 yo, .int .i64 yn, .slice a9 yk.length c9, .int .i64 vn] 37 (0, 0)) := x8
    have br : W8.heap[w.heap.size]? = some (.cells #[.int .i64 0, .int .i64 0, .bool false, .slice none 0 0, .int .i64 0, .int .i64 0, .slice none 0 0, .int .i64 0, .int .i64 0, .slice none 0 0, .int .i64 0] 37 (0, 0)) := r8
    clear t8 r8 b8 x8 T6 R6 X6
    go_wp2_with (first
      | ((with_reducible refine go_load_row 37 (.tmp 3) w1.heap.size 37 #[.int .i64 4, .int .i64 lab, .bool sk, .slice none 0 0, .int .i64 0, .int .i64 0, .slice none 0 0, .int .i64 yo, .int .i64 yn, .slice a9 yk.length c9, .int .i64 vn] _ rfl bx Try.underlying37 rfl (by kernel_rfl) ?_))
      | ((with_reducible refine go_store_row 37 (.tmp 2) (.tmp 95) w.heap.size #[.int .i64 4, .int .i64 lab, .bool sk, .slice none 0 0, .int .i64 0, .int .i64 0, .slice none 0 0, .int .i64 yo, .int .i64 yn, .slice a9 yk.length c9, .int .i64 vn] 37 #[.int .i64 0, .int .i64 0, .bool false, .slice none 0 0, .int .i64 0, .int .i64 0, .slice none 0 0, .int .i64 0, .int .i64 0, .slice none 0 0, .int .i64 0] (by with_unfolding_all rfl) (by with_unfolding_all rfl) br (by with_unfolding_all kernel_rfl) (by with_unfolding_all rfl) (by with_unfolding_all rfl) ?_)))
    refine bodyPost_ret (results_cell_row rfl _ _ w.heap.size 37 #[.int .i64 4, .int .i64 lab, .bool sk, .slice none 0 0, .int .i64 0, .int .i64 0, .slice none 0 0, .int .i64 yo, .int .i64 yn, .slice a9 yk.length c9, .int .i64 vn] (0, 0) _ rfl (show Blk _ _ _ _ from R8.out.setRow _) Try.underlying37 rfl (by kernel_rfl)) rfl ?_
    rw [HR.out]
    exact ⟨⟨none, 0, fun _ => ⟨none, 0⟩, ⟨none, 0⟩, ⟨a9, c9⟩⟩, rfl, (B8.out.keep fun b hb _ => setRow_other _ _ _ _ (Nat.ne_of_gt (Nat.lt_of_lt_of_le rl6 hb))).imp fun b hb _ => Nat.le_trans (Nat.le_of_lt rl6) hb, T8.out.setRow (Nat.le_refl _) gl _⟩
set_option maxRecDepth 100000 in
set_option maxHeartbeats 1000000 in
theorem block_prog (w : World) (B g : Nat) (ac : Option Addr) (c : Nat) (T : Tp) (k : Nat) (r : BlkL × Nat) (hs : Src w B g ac c T k)
    (hF : r = bodyF T ((nextF T k 8).1 == 0) (labelF T (nextF T k 8).2).1 (nextF T (labelF T (nextF T k 8).2).2 12).1 (nextF T (labelF T (nextF T k 8).2).2 12).2) (hq : (nextF T (labelF T (nextF T k 8).2).2 12).1 = 7) :
    Calls Try.prog 35 #[.pointer (some ⟨g, 0, none⟩)] w (BlockPost B g ac c T w r) := by
  have gl := hs.lt
  have t0 := (Took.start hs).alloc (.cells #[.int .i64 0, .int .i64 0, .bool false, .slice none 0 0, .int .i64 0, .int .i64 0, .slice none 0 0, .int .i64 0, .int .i64 0, .slice none 0 0, .int .i64 0] 37)
  have r0 := Blk.new w 37 #[.int .i64 0, .int .i64 0, .bool false, .slice none 0 0, .int .i64 0, .int .i64 0, .slice none 0 0, .int .i64 0, .int .i64 0, .slice none 0 0, .int .i64 0]
  have KN := Lib.hid (next_any _ B g ac c T k 8 t0.src (by decide) (by decide))
  have T0 := Lib.hid t0
  have R0 := Lib.hid r0
  clear t0 r0
  generalize nextF T k 8 = s at *
  obtain ⟨v, k1⟩ := s
  dsimp only at *
  have KN1 := Lib.hid (fun W hW => next_any W B g ac c T k1 3 hW (by decide) (by decide))
  have KR1 := Lib.hid (fun W hW => range_any W B g ac c T (nextF T k1 3).2 1 6 hW (by decide) (by decide) (by decide))
  have hL := labelF.eq_1 T k1
  have l1 := rangeF_lo T (nextF T k1 3).2 (lo := 1) (hi := 6) (by decide)
  have l2 := rangeF_hi T (nextF T k1 3).2 (lo := 1) (hi := 6) (by decide)
  generalize nextF T k1 3 = s at *
  obtain ⟨lv, k2⟩ := s
  dsimp only at *
  generalize rangeF T k2 1 6 = s at *
  obtain ⟨lr, k3⟩ := s
  dsimp only at *
  have HL := Lib.hid hL
  clear hL hs
  generalize labelF T k1 = s at *
  obtain ⟨lab, k4⟩ := s
  dsimp only at *
  have KN4 := Lib.hid (fun W hW => next_any W B g ac c T k4 12 hW (by decide) (by decide))
  have q1 := nextF_lo T k4 (m := 12) (by decide)
  have q2 := nextF_hi T k4 (m := 12) (by decide)
  generalize nextF T k4 12 = s at *
  obtain ⟨qv, k5⟩ := s
  dsimp only at *
  generalize hsk : (v == 0) = sk at *
  have HF := Lib.hid hF
  clear hF
  have HSK := Lib.hid hsk
  clear hsk
  go_enter Try.func35, Try.ntmps35
  go_wp2_with fail
  refine KN.out.mono ?_
  rintro e w1 ⟨rfl, t1⟩
  have r1 := t1.blk R0.out (by omega)
  have T1 := Lib.hid (T0.out.trans t1)
  have R1 := Lib.hid r1
  clear t1 r1 KN T0 R0
  have rl1 := R1.out.lt
  have sz1 := T1.out.size
  have hsk := HSK.out
  go_wp2_with fail
  clear hsk
  have T2 := Lib.hid (T1.out.alloc (.cells #[.int .i64 0, .int .i64 0, .bool sk, .slice none 0 0, .int .i64 0, .int .i64 0, .slice none 0 0, .int .i64 0, .int .i64 0, .slice none 0 0, .int .i64 0] 37))
  have R2 := Lib.hid (R1.out.alloc (.cells #[.int .i64 0, .int .i64 0, .bool sk, .slice none 0 0, .int .i64 0, .int .i64 0, .slice none 0 0, .int .i64 0, .int .i64 0, .slice none 0 0, .int .i64 0] 37))
  have X2 := Lib.hid (Blk.new w1 37 #[.int .i64 0, .int .i64 0, .bool sk, .slice none 0 0, .int .i64 0, .int .i64 0, .slice none 0 0, .int .i64 0, .int .i64 0, .slice none 0 0, .int .i64 0])
  have g2 : (w1.alloc (.cells #[.int .i64 0, .int .i64 0, .bool sk, .slice none 0 0, .int .i64 0, .int .i64 0, .slice none 0 0, .int .i64 0, .int .i64 0, .slice none 0 0, .int .i64 0] 37)).heap.size = w1.heap.size + 1 := by simp
  clear T1 R1
  generalize (w1.alloc (.cells #[.int .i64 0, .int .i64 0, .bool sk, .slice none 0 0, .int .i64 0, .int .i64 0, .slice none 0 0, .int .i64 0, .int .i64 0, .slice none 0 0, .int .i64 0] 37)) = W2 at *
  refine (KN1.out _ T2.out.src).mono ?_
  rintro e w3 ⟨rfl, t3⟩
  have T3 := Lib.hid (T2.out.trans t3)
  have R3 := Lib.hid (t3.blk R2.out (by omega))
  have X3 := Lib.hid (t3.blk X2.out (by omega))
  have sz3 := t3.size
  clear t3 T2 R2 X2 KN1
  go_upto_if 12 with fail
  go_cut [] (fun wx => Took B g ac c T w k4 wx ∧ Blk wx w.heap.size 37 #[.int .i64 0, .int .i64 0, .bool false, .slice none 0 0, .int .i64 0, .int .i64 0, .slice none 0 0, .int .i64 0, .int .i64 0, .slice none 0 0, .int .i64 0] ∧ Blk wx w1.heap.size 37 #[.int .i64 0, .int .i64 lab, .bool sk, .slice none 0 0, .int .i64 0, .int .i64 0, .slice none 0 0, .int .i64 0, .int .i64 0, .slice none 0 0, .int .i64 0])
  case first =>
    by_cases hl : lv = 0
    · subst hl
      have hL := HL.out
      rw [if_pos rfl] at hL
      injection hL with h1 h2
      subst h1 h2
      go_wp2_with fail
      refine (KR1.out _ T3.out.src).mono ?_
      rintro e w4 ⟨rfl, t4⟩
      have T4 := Lib.hid (T3.out.trans t4)
      have R4 := Lib.hid (t4.blk R3.out (by omega))
      have X4 := Lib.hid (t4.blk X3.out (by omega))
      have c1 := X4.out.cell 1
      have z1 := X4.out.frozen 1
      clear t4
      go_wp2_with fail
      go_meet
      have n1 : w.heap.size ≠ w1.heap.size := by omega
      exact ⟨T4.out.set sz1 gl _, R4.out.far (p := ⟨w1.heap.size, 1, none⟩) n1 _, X4.out.put 1 _⟩
    · have hL := HL.out
      rw [if_neg hl] at hL
      injection hL with h1 h2
      subst h1 h2
      have e0 : (lv == 0) = false := by simpa using hl
      go_wp2_with fail
      go_meet
      exact ⟨T3.out, R3.out, X3.out⟩
  case rest =>
    obtain ⟨t5, r5, x5⟩ := hcut
    have T5 := Lib.hid t5
    have R5 := Lib.hid r5
    have X5 := Lib.hid x5
    clear t5 r5 x5 T3 R3 X3 HL l1 l2 KR1
    go_wp2_with fail
    refine (KN4.out _ T5.out.src).mono ?_
    rintro e w6 ⟨rfl, t6⟩
    have T6 := Lib.hid (T5.out.trans t6)
    have R6 := Lib.hid (t6.blk R5.out (by omega))
    have X6 := Lib.hid (t6.blk X5.out (by omega))
    have xl6 := X6.out.lt
    clear t6 T5 R5 X5 KN4
    have rl6 : w.heap.size < w6.heap.size := R6.out.lt
    have xl6 : w1.heap.size < w6.heap.size := X6.out.lt
    have n1 : w.heap.size ≠ w1.heap.size := by omega
    subst hq
    have hR := HF.out.trans (show bodyF T sk lab 7 k5 = if (nextF T k5 3).1 = 0 then (⟨6, lab, sk, [], zeroX, zeroX, (rangeF T (nextF T k5 3).2 1 4).1⟩, (rangeF T (nextF T k5 3).2 1 4).2) else (⟨0, lab, sk, [], zeroX, zeroX, 0⟩, (nextF T k5 3).2) from rfl)
    clear HF
    have KN := Lib.hid (fun W hW => next_any W B g ac c T k5 3 hW (by decide) (by decide))
    generalize nextF T k5 3 = s at *
    obtain ⟨nv, k7⟩ := s
    dsimp only at *
    have KR := Lib.hid (fun W hW => range_any W B g ac c T k7 1 4 hW (by decide) (by decide) (by decide))
    have l1 := rangeF_lo T k7 (lo := 1) (hi := 4) (by decide)
    have l2 := rangeF_hi T k7 (lo := 1) (hi := 4) (by decide)
    generalize rangeF T k7 1 4 = s at *
    obtain ⟨vn, k9⟩ := s
    dsimp only at *
    have HR' := Lib.hid hR
    clear hR
    go_wp2_with fail
    have s6 : w6.heap.size ≤ w6.heap.size := Nat.le_refl _
    refine (KN.out _ T6.out.src).mono ?_
    rintro e w8 ⟨rfl, t8⟩
    have T8 := Lib.hid (T6.out.trans t8)
    have R8 := Lib.hid (t8.blk R6.out (by omega))
    have X8 := Lib.hid (t8.blk X6.out (by omega))
    have s8 := t8.size
    by_cases hn : nv = 0
    · subst hn
      have HR := Lib.hid (HR'.out.trans (if_pos rfl))
      clear HR'
      go_wp2_with fail
      refine (KR.out _ T8.out.src).mono ?_
      rintro e w10 ⟨rfl, t10⟩
      have T10 := Lib.hid (T8.out.trans t10)
      have R10 := Lib.hid (t10.blk R8.out (by omega))
      have X10 := Lib.hid (t10.blk X8.out (by omega))
      have s10 := t10.size
      have c0 := X10.out.cell 0
      have z0 := X10.out.frozen 0
      have c10 := X10.out.cell 10
      have z10 := X10.out.frozen 10
      go_upto_region 30 with fail
      clear c0 z0 c10 z10
      refine on_told (fun W => Took B g ac c T w k9 W ∧ Blk W w.heap.size 37 #[.int .i64 0, .int .i64 0, .bool false, .slice none 0 0, .int .i64 0, .int .i64 0, .slice none 0 0, .int .i64 0, .int .i64 0, .slice none 0 0, .int .i64 0] ∧ Blk W w1.heap.size 37 #[.int .i64 6, .int .i64 lab, .bool sk, .slice none 0 0, .int .i64 0, .int .i64 0, .slice none 0 0, .int .i64 0, .int .i64 0, .slice none 0 0, .int .i64 vn] ∧ BlkP (fun b => w6.heap.size ≤ b) W ⟨6, lab, sk, [], zeroX, zeroX, vn⟩ plN) ⟨((T10.out.set sz1 gl _).set sz1 gl _), ((R10.out.far (p := ⟨w1.heap.size, 0, none⟩) n1 _).far (p := ⟨w1.heap.size, 10, none⟩) n1 _), ((X10.out.put 0 _).put 10 _), BlkP.plain _ _ _ _ _ _ _ _ _ _⟩ ?_
      rintro W8 ⟨t8, r8, x8, b8⟩
      have T8 := Lib.hid t8
      have R8 := Lib.hid r8
      have B8 := Lib.hid b8
      have bx : W8.heap[w1.heap.size]? = some (.cells #[.int .i64 6, .int .i64 lab, .bool sk, .slice none 0 0, .int .i64 0, .int .i64 0, .slice none 0 0, .int .i64 0, .int .i64 0, .slice none 0 0, .int .i64 vn] 37 (0, 0)) := x8
      have br : W8.heap[w.heap.size]? = some (.cells #[.int .i64 0, .int .i64 0, .bool false, .slice none 0 0, .int .i64 0, .int .i64 0, .slice none 0 0, .int .i64 0, .int .i64 0, .slice none 0 0, .int .i64 0] 37 (0, 0)) := r8
      clear t8 r8 b8 x8 T6 R6 X6
      go_wp2_with (first
        | ((with_reducible refine go_load_row 37 (.tmp 3) w1.heap.size 37 #[.int .i64 6, .int .i64 lab, .bool sk, .slice none 0 0, .int .i64 0, .int .i64 0, .slice none 0 0, .int .i64 0, .int .i64 0, .slice none 0 0, .int .i64 vn] _ rfl bx Try.underlying37 rfl (by kernel_rfl) ?_))
        | ((with_reducible refine go_store_row 37 (.tmp 2) (.tmp 95) w.heap.size #[.int .i64 6, .int .i64 lab, .bool sk, .slice none 0 0, .int .i64 0, .int .i64 0, .slice none 0 0, .int .i64 0, .int .i64 0, .slice none 0 0, .int .i64 vn] 37 #[.int .i64 0, .int .i64 0, .bool false, .slice none 0 0, .int .i64 0, .int .i64 0, .slice none 0 0, .int .i64 0, .int .i64 0, .slice none 0 0, .int .i64 0] (by with_unfolding_all rfl) (by with_unfolding_all rfl) br (by with_unfolding_all kernel_rfl) (by with_unfolding_all rfl) (by with_unfolding_all rfl) ?_)))
      refine bodyPost_ret (results_cell_row rfl _ _ w.heap.size 37 #[.int .i64 6, .int .i64 lab, .bool sk, .slice none 0 0, .int .i64 0, .int .i64 0, .slice none 0 0, .int .i64 0, .int .i64 0, .slice none 0 0, .int .i64 vn] (0, 0) _ rfl (show Blk _ _ _ _ from R8.out.setRow _) Try.underlying37 rfl (by kernel_rfl)) rfl ?_
      rw [HR.out]
      exact ⟨plN, rfl, (B8.out.keep fun b hb _ => setRow_other _ _ _ _ (Nat.ne_of_gt (Nat.lt_of_lt_of_le rl6 hb))).imp fun b hb _ => Nat.le_trans (Nat.le_of_lt rl6) hb, T8.out.setRow (Nat.le_refl _) gl _⟩
    · have HR := Lib.hid (HR'.out.trans (if_neg hn))
      have hn' : (nv == 0) = false := by simpa using hn
      clear HR'
      go_upto_region 30 with fail
      refine on_told (fun W => Took B g ac c T w k7 W ∧ Blk W w.heap.size 37 #[.int .i64 0, .int .i64 0, .bool false, .slice none 0 0, .int .i64 0, .int .i64 0, .slice none 0 0, .int .i64 0, .int .i64 0, .slice none 0 0, .int .i64 0] ∧ Blk W w1.heap.size 37 #[.int .i64 0, .int .i64 lab, .bool sk, .slice none 0 0, .int .i64 0, .int .i64 0, .slice none 0 0, .int .i64 0, .int .i64 0, .slice none 0 0, .int .i64 0] ∧ BlkP (fun b => w6.heap.size ≤ b) W ⟨0, lab, sk, [], zeroX, zeroX, 0⟩ plN) ⟨T8.out, R8.out, X8.out, BlkP.plain _ _ _ _ _ _ _ _ _ _⟩ ?_
      rintro W8 ⟨t8, r8, x8, b8⟩
      have T8 := Lib.hid t8
      have R8 := Lib.hid r8
      have B8 := Lib.hid b8
      have bx : W8.heap[w1.heap.size]? = some (.cells #[.int .i64 0, .int .i64 lab, .bool sk, .slice none 0 0, .int .i64 0, .int .i64 0, .slice none 0 0, .int .i64 0, .int .i64 0, .slice none 0 0, .int .i64 0] 37 (0, 0)) := x8
      have br : W8.heap[w.heap.size]? = some (.cells #[.int .i64 0, .int .i64 0, .bool false, .slice none 0 0, .int .i64 0, .int .i64 0, .slice none 0 0, .int .i64 0, .int .i64 0, .slice none 0 0, .int .i64 0] 37 (0, 0)) := r8
      clear t8 r8 b8 x8 T6 R6 X6
      go_wp2_with (first
        | ((with_reducible refine go_load_row 37 (.tmp 3) w1.heap.size 37 #[.int .i64 0, .int .i64 lab, .bool sk, .slice none 0 0, .int .i64 0, .int .i64 0, .slice none 0 0, .int .i64 0, .int .i64 0, .slice none 0 0, .int .i64 0] _ rfl bx Try.underlying37 rfl (by kernel_rfl) ?_))
        | ((with_reducible refine go_store_row 37 (.tmp 2) (.tmp 95) w.heap.size #[.int .i64 0, .int .i64 lab, .bool sk, .slice none 0 0, .int .i64 0, .int .i64 0, .slice none 0 0, .int .i64 0, .int .i64 0, .slice none 0 0, .int .i64 0] 37 #[.int .i64 0, .int .i64 0, .bool false, .slice none 0 0, .int .i64 0, .int .i64 0, .slice none 0 0, .int .i64 0, .int .i64 0, .slice none 0 0, .int .i64 0] (by with_unfolding_all rfl) (by with_unfolding_all rfl) br (by with_unfolding_all kernel_rfl) (by with_unfolding_all rfl) (by with_unfolding_all rfl) ?_)))
      refine bodyPost_ret (results_cell_row rfl _ _ w.heap.size 37 #[.int .i64 0, .int .i64 lab, .bool sk, .slice none 0 0, .int .i64 0, .int .i64 0, .slice none 0 0, .int .i64 0, .int .i64 0, .slice none 0 0, .int .i64 0] (0, 0) _ rfl (show Blk _ _ _ _ from R8.out.setRow _) Try.underlying37 rfl (by kernel_rfl)) rfl ?_
      rw [HR.out]
      exact ⟨plN, rfl, (B8.out.keep fun b hb _ => setRow_other _ _ _ _ (Nat.ne_of_gt (Nat.lt_of_lt_of_le rl6 hb))).imp fun b hb _ => Nat.le_trans (Nat.le_of_lt rl6) hb, T8.out.setRow (Nat.le_refl _) gl _⟩
end Go.Proofs.Yteiogjgmedikhaa

namespace Go.Proofs.Yteiogjgmedikhaa
open Go Go.RowKit
set_option linter.unusedVariables false


theorem Took.push {B g c k : Nat} {ac : Option Addr} {T : Tp} {w wx w' : World} {o : Option Nat} (h : Took B g ac c T w k wx) (gl : g < w.heap.size) (hg : wx.grownBy w' o) (ho : ∀ q, o = some q → w.heap.size ≤ q) : Took B g ac c T w k w' :=
  ⟨h.src.keep (hg.block g h.src.lt (fun e => by have := ho g e.symm; omega)) fun p hp => World.cell?_of_block (hg.block p.block (by have := h.src.lt; have := h.src.old; omega) (fun e => by have := ho _ e.symm; have := h.src.old; omega)),
   ⟨hg.os.trans h.grown.os, hg.tape.trans h.grown.tape, hg.output.trans h.grown.output, Nat.le_trans h.grown.size hg.size, fun i hi hne => (hg.block i (Nat.lt_of_lt_of_le hi h.grown.size) (fun e => by have := ho i e.symm; omega)).trans (h.grown.block i hi hne)⟩⟩
def stepW (T : Tp) (k : Nat) : Nat := (exprF T 2 (nextF T k 13).2).2
def wordAtF (T : Tp) (k : Nat) : WordL := ⟨lettersL.getD (nextF T k 13).1.toNat 0, (exprF T 2 (nextF T k 13).2).1⟩
def wposF (T : Tp) : Nat → Nat → Nat
  | 0, k => k
  | i + 1, k => wposF T i (stepW T k)
theorem wposF_succ (T : Tp) : ∀ (i k : Nat), wposF T (i + 1) k = stepW T (wposF T i k)
  | 0, k => rfl
  | i + 1, k => wposF_succ T i (stepW T k)
theorem wordsF_pos (T : Tp) : ∀ (m k : Nat), (wordsF T m k).2 = wposF T m k
  | 0, k => rfl
  | m + 1, k => wordsF_pos T m _
theorem wordsF_at (T : Tp) : ∀ (m k i : Nat), i < m → (wordsF T m k).1[i]? = some (wordAtF T (wposF T i k))
  | 0, _, _, h => by omega
  | m + 1, k, 0, _ => rfl
  | m + 1, k, i + 1, h => by
    show (wordsF T m (stepW T k)).1[i]? = _
    exact wordsF_at T m _ i (by omega)
/-- The head of a round of Block's loop. -/
structure WHead (B g : Nat) (ac : Option Addr) (c : Nat) (T : Tp) (w : World) (bb base : Nat) (lab : Int) (sk : Bool) (ws : List WordL) (i k : Nat) (v : Value) (kk : Nat → Kid) (wx : World) : Prop where
  took : Took B g ac c T w k wx
  res : Blk wx w.heap.size 37 #[.int .i64 0, .int .i64 0, .bool false, .slice none 0 0, .int .i64 0, .int .i64 0, .slice none 0 0, .int .i64 0, .int .i64 0, .slice none 0 0, .int .i64 0]
  b : Blk wx bb 37 #[.int .i64 0, .int .i64 lab, .bool sk, v, .int .i64 0, .int .i64 0, .slice none 0 0, .int .i64 0, .int .i64 0, .slice none 0 0, .int .i64 0]
  own : wx.ownsRow base 48 4 v i (flat (wordsC ws kk) i)
  sz : base ≤ wx.heap.size
  new : ∀ (j : Nat) (x : WordL), ws[j]? = some x → j < i → ExP (fun q => base ≤ q ∧ v.ownBlock ≠ some q) wx x.x (kk j).a (kk j).cap
theorem WHead.step {B g : Nat} {ac : Option Addr} {c : Nat} {T : Tp} {w : World} {bb base : Nat} {lab : Int} {sk : Bool} {ws : List WordL} {i k : Nat} {v : Value} {kk : Nat → Kid} {wx : World} (h : WHead B g ac c T w bb base lab sk ws i k v kk wx)
    (gl : g < w.heap.size) (h1 : w.heap.size < bb) (h2 : bb < base) {x : WordL} (hx : ws[i]? = some x) {k3 : Nat} {w3 w5 : World} (t3 : Took B g ac c T wx k3 w3) {a3 : Option Addr} {c3 : Nat} (hin : ExP (fun b => wx.heap.size ≤ b) w3 x.x a3 c3) {o : Obj} {gg cc : Nat}
    (hp : Pushed (w3.alloc o) base 48 4 v i (wordsC ws kk) (wordC x ⟨a3, c3⟩) gg cc w5) :
    WHead B g ac c T w bb base lab sk ws (i + 1) k3 (.slice (some ⟨gg, 0, none⟩) (i + 1) cc) (fun j => if j = i then ⟨a3, c3⟩ else kk j) (w5.setCell ⟨bb, 3, none⟩ (.slice (some ⟨gg, 0, none⟩) (i + 1) cc)) := by
  have hs := t3.size
  have hz := h.sz
  have hrow : ∀ q, v.ownBlock = some q → base ≤ q ∧ q < wx.heap.size := fun q e => h.own.lt q e
  have hg : base ≤ gg := by
    rcases hp.at' with e | e
    · have := hrow gg e; omega
    · simp at e; omega
  have hne : ∀ q, q < base → some q ≠ v.ownBlock := fun q hq e => by have := hrow _ e.symm; omega
  have hs5 := hp.grown.size
  have t5 : Took B g ac c T w k3 w5 := ((h.took.trans t3).alloc o).push gl hp.grown fun q e => by have := hrow q e; omega
  have gr : w5.grownBy (w5.setCell ⟨bb, 3, none⟩ (.slice (some ⟨gg, 0, none⟩) (i + 1) cc)) (some bb) := grown_setCell (p := ⟨bb, 3, none⟩) (grown_refl _ _) (.inl rfl) _
  have hfin : ∀ (x : Ex) a c'', ExP (fun q => base ≤ q ∧ v.ownBlock ≠ some q) w3 x a c'' → ExP (fun q => base ≤ q ∧ Value.ownBlock (.slice (some ⟨gg, 0, none⟩) (i + 1) cc) ≠ some q) (w5.setCell ⟨bb, 3, none⟩ (.slice (some ⟨gg, 0, none⟩) (i + 1) cc)) x a c'' := by
    intro x a c' h1'
    have h2' : ExP (fun q => (base ≤ q ∧ v.ownBlock ≠ some q) ∧ q < w3.heap.size) w3 x a c' := h1'.imp fun q hq hl => ⟨hq, hl⟩
    have h3' := ((h2'.alloc o).grownP hp.grown (fun k e hk => hk.1.2 e)).grownP gr (fun k e hk => by injection e with e; omega)
    refine h3'.imp fun q hq _ => ⟨hq.1.1, ?_⟩
    simp only [Value.ownBlock, ne_eq, Option.some.injEq]
    intro e
    rcases hp.at' with e2 | e2
    · rw [e] at e2; exact hq.1.2 e2
    · simp at e2; omega
  refine ⟨t5.set (by simp; omega) gl _, ?_, ?_, ?_, by simp; simp at hs5; omega, fun j y hy' hj => ?_⟩
  · exact (((t3.blk h.res (by omega)).alloc o).grown hp.grown (hne _ (by omega))).far (p := ⟨bb, 3, none⟩) (by simp; omega) _
  · exact (((t3.blk h.b (by omega)).alloc o).grown hp.grown (hne _ (by omega))).put 3 _
  · have := hp.own
    rw [wordsC_put ws kk i x hx ⟨a3, c3⟩] at this
    refine this.kept gr (.inr ?_)
    simp [Value.ownBlock]
    omega
  · by_cases e : j = i
    · subst e
      rw [hx] at hy'
      injection hy' with hy'
      subst hy'
      simp only [if_true]
      exact hfin _ _ _ (hin.imp fun q hq _ => ⟨by omega, fun e => by have := hrow q e; omega⟩)
    · simp only [e, if_false]
      exact hfin _ _ _ ((h.new j y hy' (by omega)).grownP t3.grown fun k e hk => by injection e with e; omega)
theorem let_run {j : Nat} (h : j < 13) (W : World) : (Instr.index 9 (.string ⟨#[71, 88, 89, 90, 70, 77, 80, 76, 65, 66, 67, 73, 74]⟩) (.int .i64 (j : Nat))).run Try.prog W = .ok (.int .u8 (lettersL.getD j 0)) W := by
  rw [run_index_string W 9 _ .i64 j Try.underlying9, dif_pos ⟨by omega, by show (j : Int) < 13; omega⟩]
  match j, h with
  | 0, _ => rfl
  | 1, _ => rfl
  | 2, _ => rfl
  | 3, _ => rfl
  | 4, _ => rfl
  | 5, _ => rfl
  | 6, _ => rfl
  | 7, _ => rfl
  | 8, _ => rfl
  | 9, _ => rfl
  | 10, _ => rfl
  | 11, _ => rfl
  | 12, _ => rfl
set_option maxRecDepth 100000 in
set_option maxHeartbeats 1000000 in
theorem block_words (w : World) (B g : Nat) (ac : Option Addr) (c : Nat) (T : Tp) (k : Nat) (r : BlkL × Nat) (hs : Src w B g ac c T k)
    (hF : r = bodyF T ((nextF T k 8).1 == 0) (labelF T (nextF T k 8).2).1 (nextF T (labelF T (nextF T k 8).2).2 12).1 (nextF T (labelF T (nextF T k 8).2).2 12).2) (hq : 8 ≤ (nextF T (labelF T (nextF T k 8).2).2 12).1) :
    Calls Try.prog 35 #[.pointer (some ⟨g, 0, none⟩)] w (BlockPost B g ac c T w r) := by
  have gl := hs.lt
  have t0 := (Took.start hs).alloc (.cells #[.int .i64 0, .int .i64 0, .bool false, .slice none 0 0, .int .i64 0, .int .i64 0, .slice none 0 0, .int .i64 0, .int .i64 0, .slice none 0 0, .int .i64 0] 37)
  have r0 := Blk.new w 37 #[.int .i64 0, .int .i64 0, .bool false, .slice none 0 0, .int .i64 0, .int .i64 0, .slice none 0 0, .int .i64 0, .int .i64 0, .slice none 0 0, .int .i64 0]
  have KN := Lib.hid (next_any _ B g ac c T k 8 t0.src (by decide) (by decide))
  have T0 := Lib.hid t0
  have R0 := Lib.hid r0
  clear t0 r0
  generalize nextF T k 8 = s at *
  obtain ⟨v, k1⟩ := s
  dsimp only at *
  have KN1 := Lib.hid (fun W hW => next_any W B g ac c T k1 3 hW (by decide) (by decide))
  have KR1 := Lib.hid (fun W hW => range_any W B g ac c T (nextF T k1 3).2 1 6 hW (by decide) (by decide) (by decide))
  have hL := labelF.eq_1 T k1
  have l1 := rangeF_lo T (nextF T k1 3).2 (lo := 1) (hi := 6) (by decide)
  have l2 := rangeF_hi T (nextF T k1 3).2 (lo := 1) (hi := 6) (by decide)
  generalize nextF T k1 3 = s at *
  obtain ⟨lv, k2⟩ := s
  dsimp only at *
  generalize rangeF T k2 1 6 = s at *
  obtain ⟨lr, k3⟩ := s
  dsimp only at *
  have HL := Lib.hid hL
  clear hL hs
  generalize labelF T k1 = s at *
  obtain ⟨lab, k4⟩ := s
  dsimp only at *
  have KN4 := Lib.hid (fun W hW => next_any W B g ac c T k4 12 hW (by decide) (by decide))
  have q1 := nextF_lo T k4 (m := 12) (by decide)
  have q2 := nextF_hi T k4 (m := 12) (by decide)
  generalize nextF T k4 12 = s at *
  obtain ⟨qv, k5⟩ := s
  dsimp only at *
  generalize hsk : (v == 0) = sk at *
  have HF := Lib.hid hF
  clear hF
  have HSK := Lib.hid hsk
  clear hsk
  go_enter Try.func35, Try.ntmps35
  go_wp2_with fail
  refine KN.out.mono ?_
  rintro e w1 ⟨rfl, t1⟩
  have r1 := t1.blk R0.out (by omega)
  have T1 := Lib.hid (T0.out.trans t1)
  have R1 := Lib.hid r1
  clear t1 r1 KN T0 R0
  have rl1 := R1.out.lt
  have sz1 := T1.out.size
  have hsk := HSK.out
  go_wp2_with fail
  clear hsk
  have T2 := Lib.hid (T1.out.alloc (.cells #[.int .i64 0, .int .i64 0, .bool sk, .slice none 0 0, .int .i64 0, .int .i64 0, .slice none 0 0, .int .i64 0, .int .i64 0, .slice none 0 0, .int .i64 0] 37))
  have R2 := Lib.hid (R1.out.alloc (.cells #[.int .i64 0, .int .i64 0, .bool sk, .slice none 0 0, .int .i64 0, .int .i64 0, .slice none 0 0, .int .i64 0, .int .i64 0, .slice none 0 0, .int .i64 0] 37))
  have X2 := Lib.hid (Blk.new w1 37 #[.int .i64 0, .int .i64 0, .bool sk, .slice none 0 0, .int .i64 0, .int .i64 0, .slice none 0 0, .int .i64 0, .int .i64 0, .slice none 0 0, .int .i64 0])
  have g2 : (w1.alloc (.cells #[.int .i64 0, .int .i64 0, .bool sk, .slice none 0 0, .int .i64 0, .int .i64 0, .slice none 0 0, .int .i64 0, .int .i64 0, .slice none 0 0, .int .i64 0] 37)).heap.size = w1.heap.size + 1 := by simp
  clear T1 R1
  generalize (w1.alloc (.cells #[.int .i64 0, .int .i64 0, .bool sk, .slice none 0 0, .int .i64 0, .int .i64 0, .slice none 0 0, .int .i64 0, .int .i64 0, .slice none 0 0, .int .i64 0] 37)) = W2 at *
  refine (KN1.out _ T2.out.src).mono ?_
  rintro e w3 ⟨rfl, t3⟩
  have T3 := Lib.hid (T2.out.trans t3)
  have R3 := Lib.hid (t3.blk R2.out (by omega))
  have X3 := Lib.hid (t3.blk X2.out (by omega))
  have sz3 := t3.size
  clear t3 T2 R2 X2 KN1
  go_upto_if 12 with fail
  go_cut [] (fun wx => Took B g ac c T w k4 wx ∧ Blk wx w.heap.size 37 #[.int .i64 0, .int .i64 0, .bool false, .slice none 0 0, .int .i64 0, .int .i64 0, .slice none 0 0, .int .i64 0, .int .i64 0, .slice none 0 0, .int .i64 0] ∧ Blk wx w1.heap.size 37 #[.int .i64 0, .int .i64 lab, .bool sk, .slice none 0 0, .int .i64 0, .int .i64 0, .slice none 0 0, .int .i64 0, .int .i64 0, .slice none 0 0, .int .i64 0])
  case first =>
    by_cases hl : lv = 0
    · subst hl
      have hL := HL.out
      rw [if_pos rfl] at hL
      injection hL with h1 h2
      subst h1 h2
      go_wp2_with fail
      refine (KR1.out _ T3.out.src).mono ?_
      rintro e w4 ⟨rfl, t4⟩
      have T4 := Lib.hid (T3.out.trans t4)
      have R4 := Lib.hid (t4.blk R3.out (by omega))
      have X4 := Lib.hid (t4.blk X3.out (by omega))
      have c1 := X4.out.cell 1
      have z1 := X4.out.frozen 1
      clear t4
      go_wp2_with fail
      go_meet
      have n1 : w.heap.size ≠ w1.heap.size := by omega
      exact ⟨T4.out.set sz1 gl _, R4.out.far (p := ⟨w1.heap.size, 1, none⟩) n1 _, X4.out.put 1 _⟩
    · have hL := HL.out
      rw [if_neg hl] at hL
      injection hL with h1 h2
      subst h1 h2
      have e0 : (lv == 0) = false := by simpa using hl
      go_wp2_with fail
      go_meet
      exact ⟨T3.out, R3.out, X3.out⟩
  case rest =>
    obtain ⟨t5, r5, x5⟩ := hcut
    have T5 := Lib.hid t5
    have R5 := Lib.hid r5
    have X5 := Lib.hid x5
    clear t5 r5 x5 T3 R3 X3 HL l1 l2 KR1
    go_wp2_with fail
    refine (KN4.out _ T5.out.src).mono ?_
    rintro e w6 ⟨rfl, t6⟩
    have T6 := Lib.hid (T5.out.trans t6)
    have R6 := Lib.hid (t6.blk R5.out (by omega))
    have X6 := Lib.hid (t6.blk X5.out (by omega))
    have xl6 := X6.out.lt
    clear t6 T5 R5 X5 KN4
    have rl6 : w.heap.size < w6.heap.size := R6.out.lt
    have xl6 : w1.heap.size < w6.heap.size := X6.out.lt
    have n1 : w.heap.size ≠ w1.heap.size := by omega
    have HR0 := Lib.hid (HF.out.trans (show bodyF T sk lab qv k5 = (⟨0, lab, sk, (wordsF T (nextF T k5 4).1.toNat (nextF T k5 4).2).1, zeroX, zeroX, 0⟩, (wordsF T (nextF T k5 4).1.toNat (nextF T k5 4).2).2) from by
      unfold bodyF
      rw [if_neg (by omega), if_neg (by omega), if_neg (by omega), if_neg (by omega), if_neg (by omega), if_neg (by omega)]))
    have f0 : (qv == 0) = false := by simp; omega
    have f1 : (qv == 1) = false := by simp; omega
    have f2 : (qv == 2) = false := by simp; omega
    have f3 : (qv == 3) = false := by simp; omega
    have f4 : (qv == 4) = false := by simp; omega
    have f5 : (qv == 5) = false := by simp; omega
    have f6 : (qv == 6) = false := by simp; omega
    have f7 : (qv == 7) = false := by simp; omega
    clear HF hq q1 q2
    have KN := Lib.hid (next_any w6 B g ac c T k5 4 T6.out.src (by decide) (by decide))
    have l1 := nextF_lo T k5 (m := 4) (by decide)
    have l2 := nextF_hi T k5 (m := 4) (by decide)
    generalize nextF T k5 4 = s at *
    obtain ⟨nv, k7⟩ := s
    dsimp only at *
    obtain ⟨m, rfl⟩ : ∃ m : Nat, nv = m := ⟨nv.toNat, by omega⟩
    have hR := HR0.out
    rw [Int.toNat_natCast, wordsF_pos] at hR
    have hat := wordsF_at T m k7
    have hlen := (wordsF_ok T m k7).1
    generalize (wordsF T m k7).1 = ws at *
    have HR := Lib.hid hR
    have HAT := Lib.hid hat
    have HLEN := Lib.hid hlen
    clear hR hat hlen HR0 l1
    go_wp2_with fail
    refine KN.out.mono ?_
    rintro e w7 ⟨rfl, t7⟩
    have h0 : WHead B g ac c T w w1.heap.size w6.heap.size lab sk ws 0 k7 (.slice none 0 0) (fun _ => ⟨none, 0⟩) w7 :=
      ⟨T6.out.trans t7, t7.blk R6.out (by omega), t7.blk X6.out (by omega), World.ownsRow_nil _ _ _ _, t7.size, fun j x _ h => by omega⟩
    have H0 := Lib.hid h0
    clear h0 t7 KN
    have sz6 : w.heap.size < w1.heap.size := by omega
    go_wp2_with fail
    clear f0 f1 f2 f3 f4 f5 f6 f7
    go_loopw [4] (fun s wx => ∃ i n : Nat, i + n = m ∧ s = .int .i64 n ∧ ∃ v kk, WHead B g ac c T w w1.heap.size w6.heap.size lab sk ws i (wposF T i k7) v kk wx) (fun s _ => (intOf s).toNat)
    case atStart => exact ⟨0, m, by omega, rfl, _, _, H0.out⟩
    case round =>
      rename World => wx
      obtain ⟨i, n, hi, rfl, v, kk, hat⟩ := hrel
      have HA := Lib.hid hat
      clear hat
      by_cases hn : n = 0
      · subst hn
        obtain rfl : i = m := by omega
        have bx : wx.heap[w1.heap.size]? = some (.cells #[.int .i64 0, .int .i64 lab, .bool sk, v, .int .i64 0, .int .i64 0, .slice none 0 0, .int .i64 0, .int .i64 0, .slice none 0 0, .int .i64 0] 37 (0, 0)) := HA.out.b
        have br : wx.heap[w.heap.size]? = some (.cells #[.int .i64 0, .int .i64 0, .bool false, .slice none 0 0, .int .i64 0, .int .i64 0, .slice none 0 0, .int .i64 0, .int .i64 0, .slice none 0 0, .int .i64 0] 37 (0, 0)) := HA.out.res
        obtain ⟨aw, cw, ev, hrow, hcap⟩ := RowAt.of_own HA.out.own (fun i hi => wordsC_len (by rw [HLEN.out]; exact hi))
        subst ev
        have hbp : BlkP (fun b => w6.heap.size ≤ b) wx ⟨0, lab, sk, ws, zeroX, zeroX, 0⟩ ⟨aw, cw, kk, ⟨none, 0⟩, ⟨none, 0⟩⟩ := by
          refine ⟨⟨?_, fun j x hx => (HA.out.new j x hx (by have := (List.getElem?_eq_some_iff.1 hx).1; rw [HLEN.out] at this; exact this)).imp fun q hq _ => hq.1, by show ws.length ≤ _ ∧ _; rw [HLEN.out]; exact hcap⟩, ExP.leaf _ _ _ _, ExP.leaf _ _ _ _⟩
          show RowAt _ _ _ 4 ws.length _ _
          rw [HLEN.out]; exact hrow
        have HBP := Lib.hid hbp
        clear hrow hcap hbp
        go_wp2_with (first
          | ((with_reducible refine go_load_row 37 (.tmp 3) w1.heap.size 37 #[.int .i64 0, .int .i64 lab, .bool sk, .slice aw i cw, .int .i64 0, .int .i64 0, .slice none 0 0, .int .i64 0, .int .i64 0, .slice none 0 0, .int .i64 0] _ rfl bx Try.underlying37 rfl (by kernel_rfl) ?_))
          | ((with_reducible refine go_store_row 37 (.tmp 2) (.tmp 95) w.heap.size #[.int .i64 0, .int .i64 lab, .bool sk, .slice aw i cw, .int .i64 0, .int .i64 0, .slice none 0 0, .int .i64 0, .int .i64 0, .slice none 0 0, .int .i64 0] 37 #[.int .i64 0, .int .i64 0, .bool false, .slice none 0 0, .int .i64 0, .int .i64 0, .slice none 0 0, .int .i64 0, .int .i64 0, .slice none 0 0, .int .i64 0] (by with_unfolding_all rfl) (by with_unfolding_all rfl) br (by with_unfolding_all kernel_rfl) (by with_unfolding_all rfl) (by with_unfolding_all rfl) ?_)))
        refine bodyPost_ret (results_cell_row rfl _ _ w.heap.size 37 #[.int .i64 0, .int .i64 lab, .bool sk, .slice aw i cw, .int .i64 0, .int .i64 0, .slice none 0 0, .int .i64 0, .int .i64 0, .slice none 0 0, .int .i64 0] (0, 0) _ rfl (show Blk _ _ _ _ from HA.out.res.setRow _) Try.underlying37 rfl (by kernel_rfl)) rfl ?_
        rw [HR.out]
        refine ⟨⟨aw, cw, kk, ⟨none, 0⟩, ⟨none, 0⟩⟩, ?_, (HBP.out.keep fun b hb _ => setRow_other _ _ _ _ (Nat.ne_of_gt (Nat.lt_of_lt_of_le rl6 hb))).imp fun b hb _ => Nat.le_trans (Nat.le_of_lt rl6) hb, HA.out.took.setRow (Nat.le_refl _) gl _⟩
        unfold blkC
        dsimp only
        rw [HLEN.out]
        rfl
      · have d1 : decide (0 < n) = true := by simp; omega
        have hx : ws[i]? = some (wordAtF T (wposF T i k7)) := HAT.out i (by omega)
        have hpos := wposF_succ T i k7
        unfold stepW at hpos
        unfold wordAtF at hx
        generalize wposF T i k7 = ki at *
        have KN := Lib.hid (fun W (hW : Src W B g ac c T ki) => next_any W B g ac c T ki 13 hW (by decide) (by decide))
        have l1 := nextF_lo T ki (m := 13) (by decide)
        have l2 := nextF_hi T ki (m := 13) (by decide)
        generalize nextF T ki 13 = s at *
        obtain ⟨jv, k8⟩ := s
        dsimp only at *
        obtain ⟨j, rfl⟩ : ∃ j : Nat, jv = j := ⟨jv.toNat, by omega⟩
        rw [Int.toNat_natCast] at hx
        have hj : j < 13 := by omega
        have LR := fun W => let_run hj W
        have lo := letters_ok (getD_mem (l := lettersL) (i := j) hj)
        generalize lettersL.getD j 0 = lt at *
        have ke := fun W hW => expr_any 2 W B g ac c T k8 (by decide) hW
        rw [show ((2 : Nat) : Int) = 2 from rfl] at ke
        generalize exprF T 2 k8 = y at *
        obtain ⟨⟨yo, yn, yk⟩, k9⟩ := y
        dsimp only at *
        have KE := Lib.hid ke
        have HX := Lib.hid hx
        have HPOS := Lib.hid hpos
        have wl : IntKind.i64.wrap lt = lt := by rw [IntKind.wrap_i64]; omega
        have wl8 : IntKind.u8.wrap lt = lt := by rw [IntKind.wrap_u8]; omega
        clear ke hx hpos l1 l2
        have j0 : (0 : Int) ≤ (j : Int) := by omega
        have j1 : (j : Int) < 13 := by omega
        go_wp2_with fail
        refine region_L (fun W => W.cell? ⟨w1.heap.size, 3, none⟩ = some v) [15] (by kernel_rfl) ?_
        have hS0 : wx.drew.cell? ⟨w1.heap.size, 3, none⟩ = some v := HA.out.b.drew.cell' 3 rfl
        refine take_P 0 (v := .pointer (some ⟨w1.heap.size, 3, none⟩)) rfl (by kernel_rfl) (by kernel_rfl) (by kernel_rfl) (fun _ _ _ h => h) rfl (fun W' => by go_simp) ?_
        refine take_L 1 (v := v) rfl (by kernel_rfl) (by kernel_rfl) (by kernel_rfl) (by kernel_rfl) (fun _ _ _ h => h) rfl (fun W' hW' => by go_simp) hS0 ?_
        refine take_P 2 (v := (.string ⟨#[71, 88, 89, 90, 70, 77, 80, 76, 65, 66, 67, 73, 74]⟩)) rfl (by kernel_rfl) (by kernel_rfl) (by kernel_rfl) (fun _ _ _ h => h) rfl (fun W' => by go_simp) ?_
        refine take_P 3 (v := .pointer (some ⟨g, 0, none⟩)) rfl (by kernel_rfl) (by kernel_rfl) (by kernel_rfl) (fun _ _ _ h => h) rfl (fun W' => by go_simp) ?_
        refine take_P 4 (v := (.string ⟨#[71, 88, 89, 90, 70, 77, 80, 76, 65, 66, 67, 73, 74]⟩)) rfl (by kernel_rfl) (by kernel_rfl) (by kernel_rfl) (fun _ _ _ h => h) rfl (fun W' => by go_simp) ?_
        refine take_P 5 (v := .int .i64 13) rfl (by kernel_rfl) (by kernel_rfl) (by kernel_rfl) (fun _ _ _ h => h) rfl (fun W' => by go_simp) ?_
        refine take_P 9 (v := .pointer (some ⟨g, 0, none⟩)) rfl (by kernel_rfl) (by kernel_rfl) (by kernel_rfl) (fun _ _ _ h => h) rfl (fun W' => by go_simp) ?_
        refine one_L 6 (by kernel_rfl) rfl rfl fun K6 hK6 => ?_
        have HK6 := Lib.hid hK6
        clear hK6
        go_simp
        refine (KN.out _ HA.out.took.drew.src).mono ?_
        rintro e w8 ⟨rfl, t8⟩
        have T8 := Lib.hid ((Took.start HA.out.took.src).drew.trans t8)
        have b8 := T8.out.blk HA.out.b (by omega)
        have hS8 : w8.cell? ⟨w1.heap.size, 3, none⟩ = some v := b8.cell' 3 rfl
        refine HK6.out _ _ (fun _ _ => hS8) ?_
        refine take_P 7 (v := .int .u8 lt) rfl (by kernel_rfl) (by kernel_rfl) (by kernel_rfl) (fun _ _ _ h => h) rfl (fun W' => by go_simp) ?_
        refine take_P 8 (v := .int .i64 lt) rfl (by kernel_rfl) (by kernel_rfl) (by kernel_rfl) (fun _ _ _ h => h) rfl (fun W' => by go_simp) ?_
        refine one_L 10 (by kernel_rfl) rfl rfl fun K10 hK10 => ?_
        have HK10 := Lib.hid hK10
        clear hK10
        go_simp
        refine (KE.out _ T8.out.src).mono ?_
        rintro e w10 ⟨a3, c3, rfl, hE, t10⟩
        dsimp only [Ex.op, Ex.n, Ex.kids] at *
        have b10 := t10.blk b8 (by omega)
        have hS10 : w10.cell? ⟨w1.heap.size, 3, none⟩ = some v := b10.cell' 3 rfl
        refine HK10.out _ _ (fun _ _ => hS10) ?_
        refine take_P 11 (v := .agg #[.int .i64 lt, .int .i64 yo, .int .i64 yn, .slice a3 yk.length c3]) rfl (by kernel_rfl) (by kernel_rfl) (by kernel_rfl) (fun _ _ _ h => h) rfl (fun W' => by go_simp) ?_
        refine one_L 12 (by kernel_rfl) rfl rfl fun K12 hK12 => ?_
        have HK12 := Lib.hid hK12
        clear hK12
        refine wp_word1 (.tmp 35) (.int .i64 lt) (.int .i64 yo) (.int .i64 yn) (.slice a3 yk.length c3) rfl (by with_unfolding_all rfl) ?_
        have b11 := b10.alloc (.cells #[.int .i64 lt, .int .i64 yo, .int .i64 yn, .slice a3 yk.length c3] 48)
        refine HK12.out _ _ (fun _ _ => b11.cell' 3 rfl) ?_
        refine one_L 13 (by kernel_rfl) rfl rfl fun K13 hK13 => ?_
        have HK13 := Lib.hid hK13
        clear hK13
        have T10 := Lib.hid (T8.out.trans t10)
        have sz10 := T10.out.size
        have szx := HA.out.sz
        refine wp_push (.tmp 25) (.tmp 36) 32 rfl w6.heap.size 48 (Value.agg #[.int .i64 0, .int .i64 0, .int .i64 0, .slice none 0 0]) 4 48 Try.underlying32 infoWord (by kernel_rfl) (by decide) (by decide) v i (wordsC ws kk) (by with_unfolding_all rfl)
          ((own_grown HA.out.own T10.out.grown (by intro k e; injection e with e; omega)).alloc _) w10.heap.size (wordC ⟨lt, .mk yo yn yk⟩ ⟨a3, c3⟩) (by with_unfolding_all rfl) (Blk.new w10 48 _) rfl (by intro u hu; simp [wordC] at hu; rcases hu with rfl | rfl | rfl | rfl <;> rfl) (by omega) (by simp; omega) fun gg cc w12 hp => ?_
        have hgp : some w1.heap.size ≠ v.ownBlock := fun e => by have := HA.out.own.lt _ e.symm; omega
        have b12 := b11.grown hp.grown hgp
        refine HK13.out _ _ (fun _ _ => b12.cell' 3 rfl) ?_
        have hst := HA.out.step gl sz6 xl6 HX.out T10.out (hE.imp fun q hq _ => by have := T8.out.size; omega) hp
        have HST := Lib.hid hst
        have z12 := b12.frozen 3
        have t12 := b12.cell 3
        refine take_P 14 (v := .pointer (some ⟨w1.heap.size, 3, none⟩)) rfl (by kernel_rfl) (by kernel_rfl) (by kernel_rfl) (fun _ _ _ h => h) rfl (fun W' => by go_simp) ?_
        refine one_L 15 (by kernel_rfl) rfl rfl fun K15 hK15 => ?_
        have HK15 := Lib.hid hK15
        clear hK15
        go_simp
        refine HK15.out _ _ (fun h => absurd h (by decide)) ?_
        refine done_L (by kernel_rfl) ?_ _
        clear z12 t12 b12 b11 b10 b8 hS0 hS8 hS10 hp hE t8 t10 hst HK6 HK10 HK12 HK13 HK15 KN KE LR HA T8 T10 hgp
        go_simp
        go_wp2_with fail
        go_roundw
        case rel => exact ⟨i + 1, n - 1, by omega, by go_num, _, _, by rw [HPOS.out]; exact HST.out⟩
        case measure => simp [intOf]; omega
/-- Block, for any tape. -/
theorem block_any (w : World) (B g : Nat) (ac : Option Addr) (c : Nat) (T : Tp) (k : Nat) (hs : Src w B g ac c T k) :
    Calls Try.prog 35 #[.pointer (some ⟨g, 0, none⟩)] w (BlockPost B g ac c T w (blockF T k)) := by
  have q1 := nextF_lo T (labelF T (nextF T k 8).2).2 (m := 12) (by decide)
  have q2 := nextF_hi T (labelF T (nextF T k 8).2).2 (m := 12) (by decide)
  rcases Int.lt_or_le (nextF T (labelF T (nextF T k 8).2).2 12).1 2 with h | h
  · exact block_set w B g ac c T k _ hs rfl (by omega)
  rcases Int.lt_or_le (nextF T (labelF T (nextF T k 8).2).2 12).1 3 with h | h
  · exact block_goto w B g ac c T k _ hs rfl (by omega)
  rcases Int.lt_or_le (nextF T (labelF T (nextF T k 8).2).2 12).1 5 with h | h
  · exact block_if w B g ac c T k _ hs rfl (by omega)
  rcases Int.lt_or_le (nextF T (labelF T (nextF T k 8).2).2 12).1 6 with h | h
  · exact block_while w B g ac c T k _ hs rfl (by omega)
  rcases Int.lt_or_le (nextF T (labelF T (nextF T k 8).2).2 12).1 7 with h | h
  · exact block_end w B g ac c T k _ hs rfl (by omega)
  rcases Int.lt_or_le (nextF T (labelF T (nextF T k 8).2).2 12).1 8 with h | h
  · exact block_prog w B g ac c T k _ hs rfl (by omega)
  · exact block_words w B g ac c T k _ hs rfl h
end Go.Proofs.Yteiogjgmedikhaa
