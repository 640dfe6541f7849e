/-
  cncref16.Fields and cncref16.Lines: a line cut at its spaces, a text cut at its line feeds. Any string of at most 1,000,000 bytes.
  cncref16.Read: the number of an item that a word stands for. Any word.
-/
import Derived.Test.YtefdjdipbnnoaaaGreatDoorPlanL17
import Derived.Test.YtefdjdipbnnoaaaGreatDoorEnvP17
import Derived.Test.YtefdjdipbnnoaaaGreatDoorTab
namespace Go.Proofs.YtefdjdipbnnoaaaGreatDoor
open Go Go.RowKit
set_option linter.unusedVariables false

theorem infoStr : (Tryz.prog.info? 9).map (fun i => (i.zero, i.size, i.bytes)) = some (some (.string ⟨#[]⟩), 1, 16) := by kernel_rfl
theorem byt_get (s : ByteArray) (i : Nat) (h : i < s.size) : ∃ c : UInt8, (bl s)[i]? = some c ∧ byt s i = c.toNat := by
  obtain ⟨c, e1, e2⟩ := drop_byt s i h
  refine ⟨c, ?_, e2⟩
  have := congrArg List.head? e1
  simpa [List.head?_drop] using this
theorem seg_no (s : ByteArray) (f k : Nat) (c : UInt8) (hk : k ≤ s.size) (h : ∀ j, f ≤ j → j < k → byt s j ≠ c.toNat) : c ∉ ((bl s).drop f).take (k - f) := by
  intro hm
  obtain ⟨i, hi, he⟩ := List.mem_iff_getElem.1 hm
  rw [List.length_take, List.length_drop, bl_len] at hi
  rw [List.getElem_take, List.getElem_drop] at he
  obtain ⟨d, hd, hb⟩ := byt_get s (f + i) (by omega)
  rw [List.getElem?_eq_getElem (by rw [bl_len]; omega)] at hd
  injection hd with hd
  rw [← hd, he] at hb
  exact h (f + i) (by omega) (by omega) hb
theorem seg_split (s : ByteArray) (f k : Nat) (c : UInt8) (hk : k < s.size) (hf : f ≤ k) (hb : byt s k = c.toNat) : (bl s).drop f = ((bl s).drop f).take (k - f) ++ c :: (bl s).drop (k + 1) := by
  obtain ⟨d, e1, e2⟩ := drop_byt s k hk
  have e : c = d := by
    have h2 : (c.toNat : Int) = d.toNat := hb.symm.trans e2
    exact UInt8.toNat_inj.1 (by omega)
  subst e
  conv => lhs; rw [← List.take_append_drop (k - f) ((bl s).drop f)]
  rw [List.drop_drop, show f + (k - f) = k by omega, e1]
theorem seg_end (s : ByteArray) (f : Nat) : ((bl s).drop f).take (s.size - f) = (bl s).drop f := List.take_of_length_le (by rw [List.length_drop, bl_len]; omega)
attribute [local go_sem ↓] ix_run ix0_run
/-- The words in memory. -/
def wordsC (ws : List (List UInt8)) : List Value := ws.map fun l => Value.string (mkB l)
theorem wordsC_snoc (ws : List (List UInt8)) (l : List UInt8) : wordsC (ws ++ [l]) = wordsC ws ++ [.string (mkB l)] := by simp [wordsC]
theorem go_word1 {ops : Array Oper} {rest : List Oper} {a : Act} {w : World} {Q : Exit → Act → World → Prop} {dst : Option Tmp} {ty0 : TypeId} {pos : String} {after : Array Edge} (x : Operand) (s : ByteArray) (hx : a.eval x = .string s)
    (h : wpList Tryz.prog ops Q rest (a.put dst (.slice (some ⟨w.heap.size, 0, none⟩) 1 1)) (w.alloc (.cells #[.string s] 9))) : wpList Tryz.prog ops Q (⟨dst, .buildSlice 40 1 #[(0, x)], ty0, pos, after, none⟩ :: rest) a w := by
  obtain ⟨i0, hi, hz0, hz1, hz2⟩ := info_parts infoStr
  refine go_buildSlice 40 9 1 _ #[.string s] i0 _ Tryz.underlying40 hi hz0 (by rw [hz1]; decide) (by rw [hz1]; decide) ?_ h
  rw [hz1]
  simp only [List.map_toArray, List.map_cons, List.map_nil, hx]
  with_unfolding_all rfl
theorem go_wordapp {ops : Array Oper} {rest : List Oper} {a : Act} {w : World} {Q : Exit → Act → World → Prop} {dst : Option Tmp} {ty0 : TypeId} {pos : String} {after : Array Edge} (x y : Operand) {base : Nat} {v : Value} (ws : List (List UInt8)) (s : ByteArray) (g : Nat)
    (hx : a.eval x = v) (hown : w.ownsRow base 9 1 v ws.length (wordsC ws)) (hy : a.eval y = .slice (some ⟨g, 0, none⟩) 1 1) (hg : Blk w g 9 #[.string s]) (hn : ws.length ≤ 1000001) (hb : base ≤ w.heap.size)
    (h : ∀ v' w', w'.ownsRow base 9 1 v' (ws ++ [bl s]).length (wordsC (ws ++ [bl s])) → w.grownBy w' v.ownBlock → wpList Tryz.prog ops Q rest (a.put dst v') w') : wpList Tryz.prog ops Q (⟨dst, .call { callee := .builtin .append, args := #[x, y], argTypes := #[40, 40] }, ty0, pos, after, none⟩ :: rest) a w := by
  obtain ⟨i0, hi, hz0, hz1, hz2⟩ := info_parts infoStr
  refine wpList_append_lies w rfl x y 40 rfl base 9 i0 (.string ⟨#[]⟩) 1 16 Tryz.underlying40 hi hz0 hz1 hz2 (by kernel_rfl) (by decide) v ws.length (wordsC ws) hx hown ⟨g, 0, none⟩ 1 1 [.string s] hy rfl ?_ (by simp [Value.oneCell']) (by omega) (by unfold maxLen; omega) (by omega) hb w.heap.size rfl ?_
  · intro j u hu
    rw [Addr.add_mid, Nat.zero_add, hg.cell]
    simpa using hu
  · intro g' c' w' hown' hgrow _ _
    rw [show [Value.string s] = [Value.string (mkB (bl s))] by rw [mkB_bl], ← wordsC_snoc] at hown'
    have e : ws.length + 1 = (ws ++ [bl s]).length := by simp
    rw [e] at hown'
    have := h (.slice (some ⟨g', 0, none⟩) (ws ++ [bl s]).length c') w' hown' hgrow
    rw [← e] at this
    exact this
theorem strs_own {W : World} {base e size n : Nat} {v : Value} {xs : List Value} (h : W.ownsRow base e size v n xs) : ∃ a c, v = .slice a n c := by
  rcases h.2 with ⟨h1, h2⟩ | ⟨g', cap', cur, h1, _⟩
  · exact ⟨_, _, by rw [h1, h2]⟩
  · exact ⟨_, _, h1⟩
set_option maxRecDepth 100000 in
set_option maxHeartbeats 2000000 in
theorem fields_split (s : ByteArray) (hs : s.size ≤ 1000000) (w : World) : Calls Tryz.prog 42 #[.string s] w fun e w' => ∃ v, e = .returned v ∧ w'.ownsRow w.heap.size 9 1 v (splitL 32 (bl s)).length (wordsC (splitL 32 (bl s))) ∧ Below w.heap.size w w' := by
  go_enter Tryz.func42, Tryz.ntmps42
  go_wp2_with fail
  go_loopw [3, 4, 5] (fun s3 s4 s5 wr => ∃ (f k : Nat) (ws : List (List UInt8)), f ≤ k ∧ k ≤ s.size + 1 ∧ s4 = .int .i64 f ∧ s5 = .int .i64 k ∧ ws.length ≤ k ∧ (∀ j, f ≤ j → j < k → byt s j ≠ (32 : UInt8).toNat) ∧ (k ≤ s.size → splitL 32 (bl s) = ws ++ splitL 32 ((bl s).drop f)) ∧ (k = s.size + 1 → splitL 32 (bl s) = ws) ∧ wr.ownsRow w.heap.size 9 1 s3 ws.length (wordsC ws) ∧ Below w.heap.size w wr)
    (fun _ _ s5 _ => s.size + 1 - (intOf s5).toNat)
  case atStart => exact ⟨0, 0, [], by omega, by omega, rfl, rfl, by simp, fun j h1 h2 => by omega, fun _ => by simp, fun h => by omega, World.ownsRow_nil _ _ _ _, Below.refl _ _⟩
  case round =>
    obtain ⟨f, k, ws, hf, hk, rfl, rfl, hwl, hno, hsp, hend, hown, bel⟩ := hrel
    have hsz := bel.size
    by_cases hlt : k ≤ s.size
    · have e1 : decide (k ≤ s.size) = true := decide_eq_true hlt
      have e1' : decide ((k : Int) ≤ (s.size : Int)) = true := decide_eq_true (by omega)
      have hsp := hsp hlt
      have HOWN := Lib.hid hown
      have BEL := Lib.hid bel
      have HNO := Lib.hid hno
      have HSP := Lib.hid hsp
      have HWL := Lib.hid hwl
      have j0 : (0 : Int) ≤ (f : Int) := by omega
      have j1 : (f : Int) ≤ (k : Int) := by omega
      have j2 : (k : Int) ≤ (s.size : Int) := by omega
      have j3 : (0 : Int) ≤ (k : Int) := by omega
      clear hown bel hno hsp hend hwl
      by_cases hq : k = s.size
      · have e2 : ((k : Int) == (s.size : Int)) = true := beq_iff_eq.2 (by omega)
        have R : splitL 32 (bl s) = ws ++ [bl (s.extract f k)] := by
          rw [HSP.out, bl_extract, hq, seg_end, splitL_none]
          have := seg_no s f s.size 32 (Nat.le_refl _) (fun j h1 h2 => HNO.out j h1 (by omega))
          rwa [seg_end] at this
        have R := Lib.hid R
        have HQ := Lib.hid hq
        clear hq
        go_wp2_with (first
          | ((with_reducible refine go_word1 (.tmp 26) (s.extract f k) (by with_unfolding_all rfl) ?_))
          | ((with_reducible refine go_wordapp (.tmp 22) (.tmp 27) ws (s.extract f k) _ (by with_unfolding_all rfl) (HOWN.out.alloc _) (by with_unfolding_all rfl) (by with_unfolding_all exact Blk.new wr _ _) (by have := HWL.out; omega) (by simp; omega) ?_); intro v' w4 hown4 hgrow; have bel4 : Below w.heap.size w w4 := (BEL.out.alloc (by omega) _).trans (below_of_grown hgrow (by simp; omega) (fun k e => ((HOWN.out).lt k e).1)); have FF := Lib.hid (And.intro hown4 bel4); clear hown4 bel4 hgrow))
        go_roundw
        case rel => exact ⟨k + 1, k + 1, ws ++ [bl (s.extract f k)], by omega, by omega, by go_num, by go_num, by rw [List.length_append]; simp; exact HWL.out, fun j h1 h2 => by omega, fun h => by have := HQ.out; omega, fun _ => R.out, FF.out.1, FF.out.2⟩
        case measure => simp [intOf]; omega
      · have e2 : ((k : Int) == (s.size : Int)) = false := beq_eq_false_iff_ne.2 (by omega)
        have i2 : (k : Int) < (s.size : Int) := by omega
        have hltn : k < s.size := by omega
        by_cases hb : byt s k = 32
        · have t32 := eqB hb
          have R : splitL 32 (bl s) = (ws ++ [bl (s.extract f k)]) ++ splitL 32 ((bl s).drop (k + 1)) := by
            rw [HSP.out, bl_extract, seg_split s f k 32 hltn hf hb, splitL_app _ (seg_no s f k 32 (by omega) HNO.out), ← seg_split s f k 32 hltn hf hb]
            simp
          have R := Lib.hid R
          clear hq hb
          go_wp2_with (first
            | ((with_reducible refine go_word1 (.tmp 26) (s.extract f k) (by with_unfolding_all rfl) ?_))
            | ((with_reducible refine go_wordapp (.tmp 22) (.tmp 27) ws (s.extract f k) _ (by with_unfolding_all rfl) (HOWN.out.alloc _) (by with_unfolding_all rfl) (by with_unfolding_all exact Blk.new wr _ _) (by have := HWL.out; omega) (by simp; omega) ?_); intro v' w4 hown4 hgrow; have bel4 : Below w.heap.size w w4 := (BEL.out.alloc (by omega) _).trans (below_of_grown hgrow (by simp; omega) (fun k e => ((HOWN.out).lt k e).1)); have FF := Lib.hid (And.intro hown4 bel4); clear hown4 bel4 hgrow))
          go_roundw
          case rel => exact ⟨k + 1, k + 1, ws ++ [bl (s.extract f k)], by omega, by omega, by go_num, by go_num, by rw [List.length_append]; simp; exact HWL.out, fun j h1 h2 => by omega, fun _ => R.out, fun h => by omega, FF.out.1, FF.out.2⟩
          case measure => simp [intOf]; omega
        · have t32 := neB hb
          have HB := Lib.hid hb
          clear hq hb
          go_wp2_with fail
          go_roundw
          case rel => exact ⟨f, k + 1, ws, by omega, by omega, rfl, by go_num, by have := HWL.out; omega, fun j h1 h2 => by
            by_cases e : j = k
            · subst e; exact HB.out
            · exact HNO.out j h1 (by omega), fun _ => HSP.out, fun h => by omega, HOWN.out, BEL.out⟩
          case measure => simp [intOf]; omega
    · obtain rfl : k = s.size + 1 := by omega
      have e1 : decide (s.size + 1 ≤ s.size) = false := decide_eq_false (by omega)
      have e1' : decide (((s.size + 1 : Nat) : Int) ≤ (s.size : Int)) = false := decide_eq_false (by omega)
      have R := hend rfl
      have HOWN := Lib.hid hown
      have BEL := Lib.hid bel
      have R := Lib.hid R
      have e3 : decide ((s.size : Int) + 1 ≤ (s.size : Int)) = false := decide_eq_false (by omega)
      obtain ⟨a5, c5, rfl⟩ := strs_own hown
      clear hown bel hno hsp hend hwl
      go_wp2_with fail
      go_ret
      exact ⟨_, rfl, by rw [R.out]; exact HOWN.out, BEL.out⟩
theorem cut_seg (s : ByteArray) (f k : Nat) (hk : k < s.size) (hf : f ≤ k) (hb : byt s k = 10) (hno : ∀ j, f ≤ j → j < k → byt s j ≠ (10 : UInt8).toNat) : cutL 10 ((bl s).drop f) = some (bl (s.extract f k), (bl s).drop (k + 1)) := by
  rw [bl_extract, seg_split s f k 10 hk hf hb, cutL_app _ (seg_no s f k 10 (by omega) hno), ← seg_split s f k 10 hk hf hb]
theorem cut_endN (s : ByteArray) (f : Nat) (hf : f < s.size) (hno : ∀ j, f ≤ j → j < s.size → byt s j ≠ (10 : UInt8).toNat) : (bl s).drop f ≠ [] ∧ cutL 10 ((bl s).drop f) = none := by
  refine ⟨fun e => ?_, cutL_none.2 ?_⟩
  · have := congrArg List.length e
    rw [List.length_drop, bl_len] at this
    simp at this
    omega
  · have := seg_no s f s.size 10 (Nat.le_refl _) hno
    rwa [seg_end] at this
set_option maxRecDepth 100000 in
set_option maxHeartbeats 2000000 in
theorem lines_any (s : ByteArray) (hs : s.size ≤ 1000000) (w : World) : Calls Tryz.prog 40 #[.string s] w fun e w' => ∃ v, e = .returned (.tuple #[v, .bool (lnsF (bl s)).2]) ∧ w'.ownsRow w.heap.size 9 1 v (lnsF (bl s)).1.length (wordsC (lnsF (bl s)).1) ∧ Below w.heap.size w w' := by
  go_enter Tryz.func40, Tryz.ntmps40
  go_wp2_with fail
  go_loopw [2, 4, 5] (fun s2 s4 s5 wr => ∃ (f k : Nat) (ws : List (List UInt8)) (v2 : Value), v2 = s2 ∧ f ≤ k ∧ k ≤ s.size ∧ s4 = .int .i64 f ∧ s5 = .int .i64 k ∧ ws.length ≤ k ∧ (∀ j, f ≤ j → j < k → byt s j ≠ (10 : UInt8).toNat) ∧ lnsF (bl s) = (ws ++ (lnsF ((bl s).drop f)).1, (lnsF ((bl s).drop f)).2) ∧ wr.ownsRow w.heap.size 9 1 v2 ws.length (wordsC ws) ∧ Below w.heap.size w wr)
    (fun _ _ s5 _ => s.size - (intOf s5).toNat)
  case atStart => exact ⟨0, 0, [], _, rfl, by omega, by omega, rfl, rfl, by simp, fun j h1 h2 => by omega, by simp, World.ownsRow_nil _ _ _ _, Below.refl _ _⟩
  case round =>
    obtain ⟨f, k, ws, v2, rfl, hf, hk, rfl, rfl, hwl, hno, hsp, hown, bel⟩ := hrel
    have hsz := bel.size
    have HOWN := Lib.hid hown
    have BEL := Lib.hid bel
    have HNO := Lib.hid hno
    have HSP := Lib.hid hsp
    have HWL := Lib.hid hwl
    have j0 : (0 : Int) ≤ (f : Int) := by omega
    have j1 : (f : Int) ≤ (k : Int) := by omega
    have j2 : (k : Int) ≤ (s.size : Int) := by omega
    have j3 : (0 : Int) ≤ (k : Int) := by omega
    clear hown bel hno hsp hwl
    by_cases hlt : k < s.size
    · have e1 : decide (k < s.size) = true := decide_eq_true hlt
      have e1' : decide ((k : Int) < (s.size : Int)) = true := decide_eq_true (by omega)
      have i2 : (k : Int) < (s.size : Int) := by omega
      by_cases hb : byt s k = 10
      · have t10 := eqB hb
        have R : lnsF (bl s) = ((ws ++ [bl (s.extract f k)]) ++ (lnsF ((bl s).drop (k + 1))).1, (lnsF ((bl s).drop (k + 1))).2) := by
          rw [HSP.out, lnsF_cut (cut_seg s f k hlt hf hb HNO.out)]
          simp
        have R := Lib.hid R
        clear hb
        go_wp2_with (first
          | ((with_reducible refine go_word1 (.tmp 20) (s.extract f k) (by with_unfolding_all rfl) ?_))
          | ((with_reducible refine go_wordapp (.tmp 16) (.tmp 21) ws (s.extract f k) _ (by with_unfolding_all rfl) (HOWN.out.alloc _) (by with_unfolding_all rfl) (by with_unfolding_all exact Blk.new wr _ _) (by have := HWL.out; omega) (by simp; omega) ?_); intro v' w4 hown4 hgrow; have bel4 : Below w.heap.size w w4 := (BEL.out.alloc (by omega) _).trans (below_of_grown hgrow (by simp; omega) (fun k e => ((HOWN.out).lt k e).1)); have FF := Lib.hid (And.intro hown4 bel4); clear hown4 bel4 hgrow))
        go_roundw
        case rel => exact ⟨k + 1, k + 1, ws ++ [bl (s.extract f k)], _, rfl, by omega, by omega, by go_num, by go_num, by rw [List.length_append]; simp; exact HWL.out, fun j h1 h2 => by omega, R.out, FF.out.1, FF.out.2⟩
        case measure => simp [intOf]; omega
      · have t10 := neB hb
        have HB := Lib.hid hb
        clear hb
        go_wp2_with fail
        go_roundw
        case rel => exact ⟨f, k + 1, ws, _, rfl, by omega, by omega, rfl, by go_num, by have := HWL.out; omega, fun j h1 h2 => by
          by_cases e : j = k
          · subst e; exact HB.out
          · exact HNO.out j h1 (by omega), HSP.out, HOWN.out, BEL.out⟩
        case measure => simp [intOf]; omega
    · obtain rfl : k = s.size := by omega
      have e1 : decide (s.size < s.size) = false := by simp
      have e1' : decide ((s.size : Int) < (s.size : Int)) = false := by simp
      by_cases hfe : f < s.size
      · have df : decide ((f : Int) < (s.size : Int)) = true := decide_eq_true (by omega)
        have df' : decide (f < s.size) = true := decide_eq_true hfe
        obtain ⟨c1, c2⟩ := cut_endN s f hfe HNO.out
        have R : lnsF (bl s) = (ws ++ [bl (s.extract f s.size)], false) := by
          rw [HSP.out, lnsF_none c1 c2, bl_extract, seg_end]
        have R := Lib.hid R
        clear c1 c2
        go_wp2_with (first
          | ((with_reducible refine go_word1 (.tmp 32) (s.extract f s.size) (by with_unfolding_all rfl) ?_))
          | ((with_reducible refine go_wordapp (.tmp 29) (.tmp 33) ws (s.extract f s.size) _ (by with_unfolding_all rfl) (HOWN.out.alloc _) (by with_unfolding_all rfl) (by with_unfolding_all exact Blk.new wr _ _) (by have := HWL.out; omega) (by simp; omega) ?_); intro v' w4 hown4 hgrow; have bel4 : Below w.heap.size w w4 := (BEL.out.alloc (by omega) _).trans (below_of_grown hgrow (by simp; omega) (fun k e => ((HOWN.out).lt k e).1)); have FF := Lib.hid (And.intro hown4 bel4); clear hown4 bel4 hgrow))
        go_ret2
        exact ⟨_, by rw [R.out]; rfl, by rw [R.out]; exact FF.out.1, FF.out.2⟩
      · have df : decide ((f : Int) < (s.size : Int)) = false := decide_eq_false (by omega)
        have df' : decide (f < s.size) = false := decide_eq_false hfe
        have R : lnsF (bl s) = (ws, true) := by
          rw [HSP.out, List.drop_eq_nil_of_le (by rw [bl_len]; omega), lnsF_nil]
          simp
        have R := Lib.hid R
        go_wp2_with fail
        go_ret2
        exact ⟨_, by rw [R.out]; rfl, by rw [R.out]; exact HOWN.out, BEL.out⟩
end Go.Proofs.YtefdjdipbnnoaaaGreatDoor

namespace Go.Proofs.YtefdjdipbnnoaaaGreatDoor
open Go Go.RowKit
set_option linter.unusedVariables false

attribute [local go_sem ↓] ix_run ix0_run
def readV (o : Option Int) : Value := .tuple #[.int .i64 (o.getD 0), .bool o.isSome]
theorem head_byt {s : ByteArray} {f : Nat} (h : f < s.size) (n : UInt8) : ((bl s).drop f).head? = some n ↔ byt s f = n.toNat := by
  obtain ⟨c, e1, e2⟩ := drop_byt s f h
  rw [e1, e2, List.head?_cons, Option.some.injEq]
  constructor
  · rintro rfl; rfl
  · intro e; exact UInt8.toNat_inj.1 (by omega)
theorem digs_drop {s : ByteArray} : (0 < s.size ∧ byt s 0 = 45 ∧ negB (bl s) = true ∧ digsF (bl s) = (bl s).drop 1) ∨ ((s.size = 0 ∨ (0 < s.size ∧ byt s 0 ≠ 45)) ∧ negB (bl s) = false ∧ digsF (bl s) = (bl s).drop 0) := by
  by_cases h0 : 0 < s.size
  · have hh := head_byt h0 45
    rw [List.drop_zero] at hh
    by_cases h45 : byt s 0 = 45
    · have hn : negB (bl s) = true := by unfold negB; rw [hh.2 h45]; rfl
      exact .inl ⟨h0, h45, hn, by unfold digsF; rw [if_pos hn]⟩
    · have hn : negB (bl s) = false := by
        unfold negB
        rw [beq_eq_false_iff_ne]
        exact fun e => h45 (hh.1 e)
      exact .inr ⟨.inr ⟨h0, h45⟩, hn, by unfold digsF; rw [if_neg (by rw [hn]; decide)]; rfl⟩
  · have e : bl s = [] := List.length_eq_zero_iff.1 (by rw [bl_len]; omega)
    exact .inr ⟨.inl (by omega), by rw [e]; rfl, by rw [e]; rfl⟩
set_option maxRecDepth 100000 in
set_option maxHeartbeats 2000000 in
theorem read_any (s : ByteArray) (hs : s.size ≤ 1000000) (w : World) : Calls Tryz.prog 81 #[.string s, .int .i64 60000000] w fun e w' => e = .returned (readV (readF (bl s))) ∧ w = w' := by
  rcases digs_drop (s := s) with ⟨h0, h45, hn, hd⟩ | ⟨h0, hn, hd⟩
  · have y0 : decide (0 < s.size) = true := decide_eq_true h0
    have y0' : decide (0 < (s.size : Int)) = true := decide_eq_true (by omega)
    have y1 := eqB h45
    have HD := Lib.hid hd
    have HNG := Lib.hid hn
    by_cases h1 : s.size = 1
    · have R := Lib.hid (read_form (l := bl s) (.inl (by rw [hd, List.drop_eq_nil_of_le (by rw [bl_len]; omega)])))
      have z1 : ((s.size : Int) == 1) = true := beq_iff_eq.2 (by omega)
      have z1' : (s.size == 1) = true := beq_iff_eq.2 h1
      clear h45 hn hd HD HNG h1
      go_enter Tryz.func81, Tryz.ntmps81
      go_wp2_with fail
      go_ret2
      exact ⟨by first | rfl | (rw [R.out]; rfl), rfl⟩
    · have z1 : ((s.size : Int) == 1) = false := beq_eq_false_iff_ne.2 (by omega)
      have z1' : (s.size == 1) = false := beq_eq_false_iff_ne.2 h1
      have hs2 : 1 < s.size := by omega
      have u1 : decide (1 < s.size) = true := decide_eq_true hs2
      have u1' : decide (1 < (s.size : Int)) = true := decide_eq_true (by omega)
      have x1 : (1 : Int) < (s.size : Int) := by omega
      have hix := ix_run s 1 hs2 w
      have hix : (Instr.index 9 (.string s) (.int .i64 1)).run Tryz.prog w = .ok (.int .u8 (byt s 1)) w := hix
      have hne : digsF (bl s) ≠ [] := by
        rw [hd]
        intro e
        have := congrArg List.length e
        rw [List.length_drop, bl_len] at this
        have h3 : s.size - 1 = 0 := this
        omega
      by_cases h48 : byt s 1 = 48
      · have t48 := eqB h48
        have R := Lib.hid (read_form (l := bl s) (.inr ⟨by rw [hd]; exact (head_byt hs2 48).2 h48, fun e => by have := congrArg List.length e; rw [bl_len] at this; have h3 : s.size = 1 := this; omega⟩))
        clear h45 hn hd HD HNG h1 h48 hne
        go_enter Tryz.func81, Tryz.ntmps81
        go_wp2_with fail
        go_ret2
        exact ⟨by first | rfl | (rw [R.out]; rfl), rfl⟩
      · have t48 := neB h48
        have HNE := Lib.hid hne
        have HHD := Lib.hid (fun h : (digsF (bl s)).head? = some 48 => (absurd ((head_byt hs2 48).1 (by rw [← hd]; exact h)) h48 : bl s = [48]))
        clear h45 hn hd h1 h48 hne
        go_enter Tryz.func81, Tryz.ntmps81
        go_wp2_with fail
        clear hix
        go_loopw [7, 8] (fun s7 s8 wr => ∃ (i : Nat) (n : Int), 1 ≤ i ∧ i ≤ s.size ∧ s7 = .int .i64 n ∧ s8 = .int .i64 i ∧ 0 ≤ n ∧ n ≤ 60000009 ∧ scanD (digsF (bl s)) 0 = scanD ((bl s).drop i) n ∧ w = wr)
          (fun _ s8 _ => s.size - (intOf s8).toNat)
        case atStart => exact ⟨1, 0, by omega, by omega, rfl, by rfl, by omega, by omega, by rw [HD.out], rfl⟩
        case round =>
          obtain ⟨i, n, hi0, hi, rfl, rfl, hn0, hn1, hsc, rfl⟩ := hrel
          have k0 : (0 : Int) ≤ (i : Int) := by omega
          by_cases hlt : i < s.size
          · have e1 : decide (i < s.size) = true := decide_eq_true hlt
            have e1' : decide ((i : Int) < (s.size : Int)) = true := decide_eq_true (by omega)
            have k1 : (i : Int) < (s.size : Int) := by omega
            have hcb := byt_bd s i
            have hst := scanD_drop (n := n) hlt
            rw [← hsc] at hst
            by_cases hdg : digB (byt s i) = true
            · rw [if_pos hdg] at hst
              have hb2 : 48 ≤ byt s i ∧ byt s i ≤ 57 := of_decide_eq_true hdg
              obtain ⟨hb3, hb4⟩ := hb2
              have c1 : decide (byt s i < 48) = false := decide_eq_false (by omega)
              have c2 : decide (57 < byt s i) = false := decide_eq_false (by omega)
              by_cases hgr : 6000000 < n
              · have c3 : decide (6000000 < n) = true := decide_eq_true hgr
                have R : readF (bl s) = none := by
                  cases hv : scanD (digsF (bl s)) 0 with
                  | none => exact read_none hv
                  | some v =>
                    refine read_big hv (scan_great hgr ?_ (hsc ▸ hv))
                    intro e
                    have := congrArg List.length e
                    rw [List.length_drop, bl_len] at this
                    simp at this
                    omega
                have R := Lib.hid R
                clear hsc hdg hst hgr
                go_wp2_with fail
                go_ret2
                exact ⟨by first | rfl | (rw [R.out]; rfl), rfl⟩
              · have c3 : decide (6000000 < n) = false := decide_eq_false hgr
                have HST := Lib.hid hst
                clear hsc hdg hst
                go_wp2_with fail
                go_roundw
                case rel => exact ⟨i + 1, 10 * n + (byt s i - 48), by omega, by omega, by go_num, by go_num, by omega, by omega, HST.out, trivial⟩
                case measure => simp [intOf]; omega
            · rw [if_neg hdg] at hst
              have R := Lib.hid (read_none hst)
              have hb2 : decide (byt s i < 48) = true ∨ (decide (byt s i < 48) = false ∧ decide (57 < byt s i) = true) := by
                unfold digB at hdg
                simp at hdg ⊢
                omega
              clear hsc hdg hst
              rcases hb2 with c1 | ⟨c1, c2⟩
              all_goals
                go_wp2_with fail
                go_ret2
                exact ⟨by first | rfl | (rw [R.out]; rfl), rfl⟩
          · obtain rfl : i = s.size := by omega
            have e1 : decide (s.size < s.size) = false := by simp
            have e1' : decide ((s.size : Int) < (s.size : Int)) = false := by simp
            rw [scanD_end (Nat.le_refl _)] at hsc
            by_cases hbig : 60000000 < n
            · have c3 : decide (60000000 < n) = true := decide_eq_true hbig
              have R := Lib.hid (read_big hsc hbig)
              clear hsc hbig
              go_wp2_with fail
              go_ret2
              exact ⟨by first | rfl | (rw [R.out]; rfl), rfl⟩
            · have c3 : decide (60000000 < n) = false := decide_eq_false hbig
              have R := read_done HNE.out HHD.out hsc (by omega)
              rw [HNG.out] at R
              have R := Lib.hid R
              clear hsc hbig
              go_wp2_with fail
              go_ret2
              exact ⟨by first | rfl | (rw [R.out]; rfl), rfl⟩
  · have HD := Lib.hid hd
    have HNG := Lib.hid hn
    rcases h0 with h0 | ⟨h0, h45⟩
    · have y0 : decide (0 < s.size) = false := decide_eq_false (by omega)
      have y0' : decide (0 < (s.size : Int)) = false := decide_eq_false (by omega)
      have R := Lib.hid (read_form (l := bl s) (.inl (by rw [hd, List.drop_zero]; exact List.length_eq_zero_iff.1 (by rw [bl_len]; exact h0))))
      have z1 : ((s.size : Int) == 0) = true := beq_iff_eq.2 (by omega)
      have z1' : (s.size == 0) = true := beq_iff_eq.2 h0
      clear hn hd HD HNG h0
      go_enter Tryz.func81, Tryz.ntmps81
      go_wp2_with fail
      go_ret2
      exact ⟨by first | rfl | (rw [R.out]; rfl), rfl⟩
    · have y0 : decide (0 < s.size) = true := decide_eq_true h0
      have y0' : decide (0 < (s.size : Int)) = true := decide_eq_true (by omega)
      have y1 := neB h45
      have z1 : ((s.size : Int) == 0) = false := beq_eq_false_iff_ne.2 (by omega)
      have z1' : (s.size == 0) = false := beq_eq_false_iff_ne.2 (by omega)
      have hne : digsF (bl s) ≠ [] := by
        rw [hd, List.drop_zero]
        intro e
        have := congrArg List.length e
        rw [bl_len] at this
        have h3 : s.size = 0 := this
        omega
      by_cases h48 : byt s 0 = 48
      · have t48 := eqB h48
        by_cases h1 : 1 < s.size
        · have u1 : decide (1 < s.size) = true := decide_eq_true h1
          have u1' : decide (1 < (s.size : Int)) = true := decide_eq_true (by omega)
          have R := Lib.hid (read_form (l := bl s) (.inr ⟨by rw [hd]; exact (head_byt h0 48).2 h48, fun e => by have := congrArg List.length e; rw [bl_len] at this; have h3 : s.size = 1 := this; omega⟩))
          clear h45 hn hd HD HNG h1 h48 hne
          go_enter Tryz.func81, Tryz.ntmps81
          go_wp2_with fail
          go_ret2
          exact ⟨by first | rfl | (rw [R.out]; rfl), rfl⟩
        · have u1 : decide (1 < s.size) = false := decide_eq_false h1
          have u1' : decide (1 < (s.size : Int)) = false := decide_eq_false (by omega)
          have HNE := Lib.hid hne
          have e48 : bl s = [48] := by
            obtain ⟨c, e1, e2⟩ := drop_byt s 0 h0
            rw [List.drop_zero, List.drop_eq_nil_of_le (by rw [bl_len]; omega)] at e1
            rw [e1]
            congr 1
            exact UInt8.toNat_inj.1 (by simpa using (by omega : c.toNat = 48))
          have HHD := Lib.hid (fun _ : (digsF (bl s)).head? = some 48 => e48)
          clear h45 hn hd h48 hne e48
          go_enter Tryz.func81, Tryz.ntmps81
          go_wp2_with fail
          go_loopw [7, 8] (fun s7 s8 wr => ∃ (i : Nat) (n : Int), 0 ≤ i ∧ i ≤ s.size ∧ s7 = .int .i64 n ∧ s8 = .int .i64 i ∧ 0 ≤ n ∧ n ≤ 60000009 ∧ scanD (digsF (bl s)) 0 = scanD ((bl s).drop i) n ∧ w = wr)
            (fun _ s8 _ => s.size - (intOf s8).toNat)
          case atStart => exact ⟨0, 0, by omega, by omega, rfl, by rfl, by omega, by omega, by rw [HD.out], rfl⟩
          case round =>
            obtain ⟨i, n, hi0, hi, rfl, rfl, hn0, hn1, hsc, rfl⟩ := hrel
            have k0 : (0 : Int) ≤ (i : Int) := by omega
            by_cases hlt : i < s.size
            · have e1 : decide (i < s.size) = true := decide_eq_true hlt
              have e1' : decide ((i : Int) < (s.size : Int)) = true := decide_eq_true (by omega)
              have k1 : (i : Int) < (s.size : Int) := by omega
              have hcb := byt_bd s i
              have hst := scanD_drop (n := n) hlt
              rw [← hsc] at hst
              by_cases hdg : digB (byt s i) = true
              · rw [if_pos hdg] at hst
                have hb2 : 48 ≤ byt s i ∧ byt s i ≤ 57 := of_decide_eq_true hdg
                obtain ⟨hb3, hb4⟩ := hb2
                have c1 : decide (byt s i < 48) = false := decide_eq_false (by omega)
                have c2 : decide (57 < byt s i) = false := decide_eq_false (by omega)
                by_cases hgr : 6000000 < n
                · have c3 : decide (6000000 < n) = true := decide_eq_true hgr
                  have R : readF (bl s) = none := by
                    cases hv : scanD (digsF (bl s)) 0 with
                    | none => exact read_none hv
                    | some v =>
                      refine read_big hv (scan_great hgr ?_ (hsc ▸ hv))
                      intro e
                      have := congrArg List.length e
                      rw [List.length_drop, bl_len] at this
                      simp at this
                      omega
                  have R := Lib.hid R
                  clear hsc hdg hst hgr
                  go_wp2_with fail
                  go_ret2
                  exact ⟨by first | rfl | (rw [R.out]; rfl), rfl⟩
                · have c3 : decide (6000000 < n) = false := decide_eq_false hgr
                  have HST := Lib.hid hst
                  clear hsc hdg hst
                  go_wp2_with fail
                  go_roundw
                  case rel => exact ⟨i + 1, 10 * n + (byt s i - 48), by omega, by omega, by go_num, by go_num, by omega, by omega, HST.out, trivial⟩
                  case measure => simp [intOf]; omega
              · rw [if_neg hdg] at hst
                have R := Lib.hid (read_none hst)
                have hb2 : decide (byt s i < 48) = true ∨ (decide (byt s i < 48) = false ∧ decide (57 < byt s i) = true) := by
                  unfold digB at hdg
                  simp at hdg ⊢
                  omega
                clear hsc hdg hst
                rcases hb2 with c1 | ⟨c1, c2⟩
                all_goals
                  go_wp2_with fail
                  go_ret2
                  exact ⟨by first | rfl | (rw [R.out]; rfl), rfl⟩
            · obtain rfl : i = s.size := by omega
              have e1 : decide (s.size < s.size) = false := by simp
              have e1' : decide ((s.size : Int) < (s.size : Int)) = false := by simp
              rw [scanD_end (Nat.le_refl _)] at hsc
              by_cases hbig : 60000000 < n
              · have c3 : decide (60000000 < n) = true := decide_eq_true hbig
                have R := Lib.hid (read_big hsc hbig)
                clear hsc hbig
                go_wp2_with fail
                go_ret2
                exact ⟨by first | rfl | (rw [R.out]; rfl), rfl⟩
              · have c3 : decide (60000000 < n) = false := decide_eq_false hbig
                have R := read_done HNE.out HHD.out hsc (by omega)
                rw [HNG.out] at R
                have R := Lib.hid R
                clear hsc hbig
                go_wp2_with fail
                go_ret2
                exact ⟨by first | rfl | (rw [R.out]; rfl), rfl⟩
      · have t48 := neB h48
        have HNE := Lib.hid hne
        have HHD := Lib.hid (fun h : (digsF (bl s)).head? = some 48 => (absurd ((head_byt h0 48).1 (by rw [← hd]; exact h)) h48 : bl s = [48]))
        clear h45 hn hd h48 hne
        go_enter Tryz.func81, Tryz.ntmps81
        go_wp2_with fail
        go_loopw [7, 8] (fun s7 s8 wr => ∃ (i : Nat) (n : Int), 0 ≤ i ∧ i ≤ s.size ∧ s7 = .int .i64 n ∧ s8 = .int .i64 i ∧ 0 ≤ n ∧ n ≤ 60000009 ∧ scanD (digsF (bl s)) 0 = scanD ((bl s).drop i) n ∧ w = wr)
          (fun _ s8 _ => s.size - (intOf s8).toNat)
        case atStart => exact ⟨0, 0, by omega, by omega, rfl, by rfl, by omega, by omega, by rw [HD.out], rfl⟩
        case round =>
          obtain ⟨i, n, hi0, hi, rfl, rfl, hn0, hn1, hsc, rfl⟩ := hrel
          have k0 : (0 : Int) ≤ (i : Int) := by omega
          by_cases hlt : i < s.size
          · have e1 : decide (i < s.size) = true := decide_eq_true hlt
            have e1' : decide ((i : Int) < (s.size : Int)) = true := decide_eq_true (by omega)
            have k1 : (i : Int) < (s.size : Int) := by omega
            have hcb := byt_bd s i
            have hst := scanD_drop (n := n) hlt
            rw [← hsc] at hst
            by_cases hdg : digB (byt s i) = true
            · rw [if_pos hdg] at hst
              have hb2 : 48 ≤ byt s i ∧ byt s i ≤ 57 := of_decide_eq_true hdg
              obtain ⟨hb3, hb4⟩ := hb2
              have c1 : decide (byt s i < 48) = false := decide_eq_false (by omega)
              have c2 : decide (57 < byt s i) = false := decide_eq_false (by omega)
              by_cases hgr : 6000000 < n
              · have c3 : decide (6000000 < n) = true := decide_eq_true hgr
                have R : readF (bl s) = none := by
                  cases hv : scanD (digsF (bl s)) 0 with
                  | none => exact read_none hv
                  | some v =>
                    refine read_big hv (scan_great hgr ?_ (hsc ▸ hv))
                    intro e
                    have := congrArg List.length e
                    rw [List.length_drop, bl_len] at this
                    simp at this
                    omega
                have R := Lib.hid R
                clear hsc hdg hst hgr
                go_wp2_with fail
                go_ret2
                exact ⟨by first | rfl | (rw [R.out]; rfl), rfl⟩
              · have c3 : decide (6000000 < n) = false := decide_eq_false hgr
                have HST := Lib.hid hst
                clear hsc hdg hst
                go_wp2_with fail
                go_roundw
                case rel => exact ⟨i + 1, 10 * n + (byt s i - 48), by omega, by omega, by go_num, by go_num, by omega, by omega, HST.out, trivial⟩
                case measure => simp [intOf]; omega
            · rw [if_neg hdg] at hst
              have R := Lib.hid (read_none hst)
              have hb2 : decide (byt s i < 48) = true ∨ (decide (byt s i < 48) = false ∧ decide (57 < byt s i) = true) := by
                unfold digB at hdg
                simp at hdg ⊢
                omega
              clear hsc hdg hst
              rcases hb2 with c1 | ⟨c1, c2⟩
              all_goals
                go_wp2_with fail
                go_ret2
                exact ⟨by first | rfl | (rw [R.out]; rfl), rfl⟩
          · obtain rfl : i = s.size := by omega
            have e1 : decide (s.size < s.size) = false := by simp
            have e1' : decide ((s.size : Int) < (s.size : Int)) = false := by simp
            rw [scanD_end (Nat.le_refl _)] at hsc
            by_cases hbig : 60000000 < n
            · have c3 : decide (60000000 < n) = true := decide_eq_true hbig
              have R := Lib.hid (read_big hsc hbig)
              clear hsc hbig
              go_wp2_with fail
              go_ret2
              exact ⟨by first | rfl | (rw [R.out]; rfl), rfl⟩
            · have c3 : decide (60000000 < n) = false := decide_eq_false hbig
              have R := read_done HNE.out HHD.out hsc (by omega)
              rw [HNG.out] at R
              have R := Lib.hid R
              clear hsc hbig
              go_wp2_with fail
              go_ret2
              exact ⟨by first | rfl | (rw [R.out]; rfl), rfl⟩
end Go.Proofs.YtefdjdipbnnoaaaGreatDoor
