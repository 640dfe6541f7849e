/-
  cncref16.Fields and cncref16.Lines: a line cut at its spaces, a text cut at its line feeds. Any string of at most 1,000,000 bytes.
-/
import Derived.Test.YtlpmbjgimllmgaaDoorPlanP16
import Derived.Test.YtlpmbjgimllmgaaDoorEnv16
import Derived.Test.YtlpmbjgimllmgaaDoorTab
namespace Go.Proofs.YtlpmbjgimllmgaaDoor
open Go Go.RowKit
set_option linter.unusedVariables false

theorem infoStr : (Tryd.prog.info? 9).map (fun i => (i.zero, i.size, i.bytes)) = some (some (.string ⟨#[]⟩), 1, 16) := by kernel_rfl
theorem byt_get (s : ByteArray) (i : Nat) (h : i < s.size) : ∃ c : UInt8, (bl s)[i]? = some c ∧ byt s i = c.toNat := by
  obtain ⟨c, e1, e2⟩ := drop_byt s i h
  refine ⟨c, ?_, e2⟩
  have := congrArg List.head? e1
  simpa [List.head?_drop] using this
theorem seg_no (s : ByteArray) (f k : Nat) (c : UInt8) (hk : k ≤ s.size) (h : ∀ j, f ≤ j → j < k → byt s j ≠ c.toNat) : c ∉ ((bl s).drop f).take (k - f) := by
  intro hm
  obtain ⟨i, hi, he⟩ := List.mem_iff_getElem.1 hm
  rw [List.length_take, List.length_drop, bl_len] at hi
  rw [List.getElem_take, List.getElem_drop] at he
  obtain ⟨d, hd, hb⟩ := byt_get s (f + i) (by omega)
  rw [List.getElem?_eq_getElem (by rw [bl_len]; omega)] at hd
  injection hd with hd
  rw [← hd, he] at hb
  exact h (f + i) (by omega) (by omega) hb
theorem seg_split (s : ByteArray) (f k : Nat) (c : UInt8) (hk : k < s.size) (hf : f ≤ k) (hb : byt s k = c.toNat) : (bl s).drop f = ((bl s).drop f).take (k - f) ++ c :: (bl s).drop (k + 1) := by
  obtain ⟨d, e1, e2⟩ := drop_byt s k hk
  have e : c = d := by
    have h2 : (c.toNat : Int) = d.toNat := hb.symm.trans e2
    exact UInt8.toNat_inj.1 (by omega)
  subst e
  conv => lhs; rw [← List.take_append_drop (k - f) ((bl s).drop f)]
  rw [List.drop_drop, show f + (k - f) = k by omega, e1]
theorem seg_end (s : ByteArray) (f : Nat) : ((bl s).drop f).take (s.size - f) = (bl s).drop f := List.take_of_length_le (by rw [List.length_drop, bl_len]; omega)
attribute [local go_sem ↓] ix_run ix0_run
/-- The words in memory. -/
def wordsC (ws : List (List UInt8)) : List Value := ws.map fun l => Value.string (mkB l)
theorem wordsC_snoc (ws : List (List UInt8)) (l : List UInt8) : wordsC (ws ++ [l]) = wordsC ws ++ [.string (mkB l)] := by simp [wordsC]
theorem go_str1 {ops : Array Oper} {rest : List Oper} {a : Act} {w : World} {Q : Exit → Act → World → Prop} {dst : Option Tmp} {ty0 : TypeId} {pos : String} {after : Array Edge} (x : Operand) (s : ByteArray) (hx : a.eval x = .string s)
    (h : wpList Tryd.prog ops Q rest (a.put dst (.slice (some ⟨w.heap.size, 0, none⟩) 1 1)) (w.alloc (.cells #[.string s] 9))) : wpList Tryd.prog ops Q (⟨dst, .buildSlice 34 1 #[(0, x)], ty0, pos, after, none⟩ :: rest) a w := by
  obtain ⟨i0, hi, hz0, hz1, hz2⟩ := info_parts infoStr
  refine go_buildSlice 34 9 1 _ #[.string s] i0 _ Tryd.underlying34 hi hz0 (by rw [hz1]; decide) (by rw [hz1]; decide) ?_ h
  rw [hz1]
  simp only [List.map_toArray, List.map_cons, List.map_nil, hx]
  with_unfolding_all rfl
theorem go_strapp {ops : Array Oper} {rest : List Oper} {a : Act} {w : World} {Q : Exit → Act → World → Prop} {dst : Option Tmp} {ty0 : TypeId} {pos : String} {after : Array Edge} (x y : Operand) {base : Nat} {v : Value} (ws : List (List UInt8)) (s : ByteArray) (g : Nat)
    (hx : a.eval x = v) (hown : w.ownsRow base 9 1 v ws.length (wordsC ws)) (hy : a.eval y = .slice (some ⟨g, 0, none⟩) 1 1) (hg : Blk w g 9 #[.string s]) (hn : ws.length ≤ 1000001) (hb : base ≤ w.heap.size)
    (h : ∀ v' w', w'.ownsRow base 9 1 v' (ws ++ [bl s]).length (wordsC (ws ++ [bl s])) → w.grownBy w' v.ownBlock → wpList Tryd.prog ops Q rest (a.put dst v') w') : wpList Tryd.prog ops Q (⟨dst, .call { callee := .builtin .append, args := #[x, y], argTypes := #[34, 34] }, ty0, pos, after, none⟩ :: rest) a w := by
  obtain ⟨i0, hi, hz0, hz1, hz2⟩ := info_parts infoStr
  refine wpList_append_lies w rfl x y 34 rfl base 9 i0 (.string ⟨#[]⟩) 1 16 Tryd.underlying34 hi hz0 hz1 hz2 (by kernel_rfl) (by decide) v ws.length (wordsC ws) hx hown ⟨g, 0, none⟩ 1 1 [.string s] hy rfl ?_ (by simp [Value.oneCell']) (by omega) (by unfold maxLen; omega) (by omega) hb w.heap.size rfl ?_
  · intro j u hu
    rw [Addr.add_mid, Nat.zero_add, hg.cell]
    simpa using hu
  · intro g' c' w' hown' hgrow _ _
    rw [show [Value.string s] = [Value.string (mkB (bl s))] by rw [mkB_bl], ← wordsC_snoc] at hown'
    have e : ws.length + 1 = (ws ++ [bl s]).length := by simp
    rw [e] at hown'
    have := h (.slice (some ⟨g', 0, none⟩) (ws ++ [bl s]).length c') w' hown' hgrow
    rw [← e] at this
    exact this
theorem strs_own {W : World} {base e size n : Nat} {v : Value} {xs : List Value} (h : W.ownsRow base e size v n xs) : ∃ a c, v = .slice a n c := by
  rcases h.2 with ⟨h1, h2⟩ | ⟨g', cap', cur, h1, _⟩
  · exact ⟨_, _, by rw [h1, h2]⟩
  · exact ⟨_, _, h1⟩
set_option maxRecDepth 100000 in
set_option maxHeartbeats 2000000 in
theorem fields_split (s : ByteArray) (hs : s.size ≤ 1000000) (w : World) : Calls Tryd.prog 37 #[.string s] w fun e w' => ∃ v, e = .returned v ∧ w'.ownsRow w.heap.size 9 1 v (splitL 32 (bl s)).length (wordsC (splitL 32 (bl s))) ∧ Below w.heap.size w w' := by
  go_enter Tryd.func37, Tryd.ntmps37
  go_wp2_with fail
  go_loopw [3, 4, 5] (fun s3 s4 s5 wr => ∃ (f k : Nat) (ws : List (List UInt8)), f ≤ k ∧ k ≤ s.size + 1 ∧ s4 = .int .i64 f ∧ s5 = .int .i64 k ∧ ws.length ≤ k ∧ (∀ j, f ≤ j → j < k → byt s j ≠ (32 : UInt8).toNat) ∧ (k ≤ s.size → splitL 32 (bl s) = ws ++ splitL 32 ((bl s).drop f)) ∧ (k = s.size + 1 → splitL 32 (bl s) = ws) ∧ wr.ownsRow w.heap.size 9 1 s3 ws.length (wordsC ws) ∧ Below w.heap.size w wr)
    (fun _ _ s5 _ => s.size + 1 - (intOf s5).toNat)
  case atStart => exact ⟨0, 0, [], by omega, by omega, rfl, rfl, by simp, fun j h1 h2 => by omega, fun _ => by simp, fun h => by omega, World.ownsRow_nil _ _ _ _, Below.refl _ _⟩
  case round =>
    obtain ⟨f, k, ws, hf, hk, rfl, rfl, hwl, hno, hsp, hend, hown, bel⟩ := hrel
    have hsz := bel.size
    by_cases hlt : k ≤ s.size
    · have e1 : decide (k ≤ s.size) = true := decide_eq_true hlt
      have e1' : decide ((k : Int) ≤ (s.size : Int)) = true := decide_eq_true (by omega)
      have hsp := hsp hlt
      have HOWN := Lib.hid hown
      have BEL := Lib.hid bel
      have HNO := Lib.hid hno
      have HSP := Lib.hid hsp
      have HWL := Lib.hid hwl
      have j0 : (0 : Int) ≤ (f : Int) := by omega
      have j1 : (f : Int) ≤ (k : Int) := by omega
      have j2 : (k : Int) ≤ (s.size : Int) := by omega
      have j3 : (0 : Int) ≤ (k : Int) := by omega
      clear hown bel hno hsp hend hwl
      by_cases hq : k = s.size
      · have e2 : ((k : Int) == (s.size : Int)) = true := beq_iff_eq.2 (by omega)
        have R : splitL 32 (bl s) = ws ++ [bl (s.extract f k)] := by
          rw [HSP.out, bl_extract, hq, seg_end, splitL_none]
          have := seg_no s f s.size 32 (Nat.le_refl _) (fun j h1 h2 => HNO.out j h1 (by omega))
          rwa [seg_end] at this
        have R := Lib.hid R
        have HQ := Lib.hid hq
        clear hq
        go_wp2_with (first
          | ((with_reducible refine go_str1 (.tmp 26) (s.extract f k) (by with_unfolding_all rfl) ?_))
          | ((with_reducible refine go_strapp (.tmp 22) (.tmp 27) ws (s.extract f k) _ (by with_unfolding_all rfl) (HOWN.out.alloc _) (by with_unfolding_all rfl) (by with_unfolding_all exact Blk.new wr _ _) (by have := HWL.out; omega) (by simp; omega) ?_); intro v' w4 hown4 hgrow; have bel4 : Below w.heap.size w w4 := (BEL.out.alloc (by omega) _).trans (below_of_grown hgrow (by simp; omega) (fun k e => ((HOWN.out).lt k e).1)); have FF := Lib.hid (And.intro hown4 bel4); clear hown4 bel4 hgrow))
        go_roundw
        case rel => exact ⟨k + 1, k + 1, ws ++ [bl (s.extract f k)], by omega, by omega, by go_num, by go_num, by rw [List.length_append]; simp; exact HWL.out, fun j h1 h2 => by omega, fun h => by have := HQ.out; omega, fun _ => R.out, FF.out.1, FF.out.2⟩
        case measure => simp [intOf]; omega
      · have e2 : ((k : Int) == (s.size : Int)) = false := beq_eq_false_iff_ne.2 (by omega)
        have i2 : (k : Int) < (s.size : Int) := by omega
        have hltn : k < s.size := by omega
        by_cases hb : byt s k = 32
        · have t32 := eqB hb
          have R : splitL 32 (bl s) = (ws ++ [bl (s.extract f k)]) ++ splitL 32 ((bl s).drop (k + 1)) := by
            rw [HSP.out, bl_extract, seg_split s f k 32 hltn hf hb, splitL_app _ (seg_no s f k 32 (by omega) HNO.out), ← seg_split s f k 32 hltn hf hb]
            simp
          have R := Lib.hid R
          clear hq hb
          go_wp2_with (first
            | ((with_reducible refine go_str1 (.tmp 26) (s.extract f k) (by with_unfolding_all rfl) ?_))
            | ((with_reducible refine go_strapp (.tmp 22) (.tmp 27) ws (s.extract f k) _ (by with_unfolding_all rfl) (HOWN.out.alloc _) (by with_unfolding_all rfl) (by with_unfolding_all exact Blk.new wr _ _) (by have := HWL.out; omega) (by simp; omega) ?_); intro v' w4 hown4 hgrow; have bel4 : Below w.heap.size w w4 := (BEL.out.alloc (by omega) _).trans (below_of_grown hgrow (by simp; omega) (fun k e => ((HOWN.out).lt k e).1)); have FF := Lib.hid (And.intro hown4 bel4); clear hown4 bel4 hgrow))
          go_roundw
          case rel => exact ⟨k + 1, k + 1, ws ++ [bl (s.extract f k)], by omega, by omega, by go_num, by go_num, by rw [List.length_append]; simp; exact HWL.out, fun j h1 h2 => by omega, fun _ => R.out, fun h => by omega, FF.out.1, FF.out.2⟩
          case measure => simp [intOf]; omega
        · have t32 := neB hb
          have HB := Lib.hid hb
          clear hq hb
          go_wp2_with fail
          go_roundw
          case rel => exact ⟨f, k + 1, ws, by omega, by omega, rfl, by go_num, by have := HWL.out; omega, fun j h1 h2 => by
            by_cases e : j = k
            · subst e; exact HB.out
            · exact HNO.out j h1 (by omega), fun _ => HSP.out, fun h => by omega, HOWN.out, BEL.out⟩
          case measure => simp [intOf]; omega
    · obtain rfl : k = s.size + 1 := by omega
      have e1 : decide (s.size + 1 ≤ s.size) = false := decide_eq_false (by omega)
      have e1' : decide (((s.size + 1 : Nat) : Int) ≤ (s.size : Int)) = false := decide_eq_false (by omega)
      have R := hend rfl
      have HOWN := Lib.hid hown
      have BEL := Lib.hid bel
      have R := Lib.hid R
      have e3 : decide ((s.size : Int) + 1 ≤ (s.size : Int)) = false := decide_eq_false (by omega)
      obtain ⟨a5, c5, rfl⟩ := strs_own hown
      clear hown bel hno hsp hend hwl
      go_wp2_with fail
      go_ret
      exact ⟨_, rfl, by rw [R.out]; exact HOWN.out, BEL.out⟩
/-- The lines of a text, and whether its last one is ended. -/
def lnsG : Nat → List UInt8 → List (List UInt8) × Bool
  | 0, _ => ([], true)
  | f + 1, l => if l = [] then ([], true) else match cutL 10 l with
    | none => ([l], false)
    | some (a, r) => (a :: (lnsG f r).1, (lnsG f r).2)
def lnsF (l : List UInt8) : List (List UInt8) × Bool := lnsG (l.length + 1) l
theorem lnsG_more : ∀ (f g : Nat) (l : List UInt8), l.length < f → l.length < g → lnsG f l = lnsG g l
  | 0, _, _, h, _ => by omega
  | _, 0, _, _, h => by omega
  | f + 1, g + 1, l, hf, hg => by
    rw [lnsG, lnsG]
    split
    · rfl
    · split
      · rfl
      · rename_i s r hc
        have := cut_less hc
        rw [lnsG_more f g r (by omega) (by omega)]
theorem lnsF_nil : lnsF [] = ([], true) := rfl
theorem lnsF_none {l : List UInt8} (hl : l ≠ []) (h : cutL 10 l = none) : lnsF l = ([l], false) := by unfold lnsF; rw [lnsG, if_neg hl, h]
theorem lnsF_cut {l a r : List UInt8} (h : cutL 10 l = some (a, r)) : lnsF l = (a :: (lnsF r).1, (lnsF r).2) := by
  have := cut_less h
  unfold lnsF
  rw [lnsG, if_neg (by rintro rfl; simp [cutL] at h), h]
  simp only
  rw [lnsG_more _ (r.length + 1) r (by omega) (by omega)]
theorem lnsF_len : ∀ (n : Nat) (l : List UInt8), l.length ≤ n → (lnsF l).1.length ≤ l.length ∧ ((lnsF l).1 = [] → (lnsF l).2 = true) ∧ ∀ a ∈ (lnsF l).1, a.length ≤ l.length := by
  intro n
  induction n with
  | zero =>
    intro l hl
    obtain rfl := List.length_eq_zero_iff.1 (Nat.le_zero.1 hl)
    rw [lnsF_nil]
    exact ⟨by simp, fun _ => rfl, fun a h => by simp at h⟩
  | succ n ih =>
    intro l hl
    by_cases h0 : l = []
    · subst h0; rw [lnsF_nil]; exact ⟨by simp, fun _ => rfl, fun a h => by simp at h⟩
    · cases hc : cutL 10 l with
      | none =>
        rw [lnsF_none h0 hc]
        have : 1 ≤ l.length := by cases l with | nil => exact absurd rfl h0 | cons c l => simp
        exact ⟨by simpa using this, fun h => by simp at h, fun a h => by simp at h; subst h; exact Nat.le_refl _⟩
      | some p =>
        obtain ⟨a, r⟩ := p
        have := cut_less hc
        obtain ⟨h1, h2, h3⟩ := ih r (by omega)
        rw [lnsF_cut hc]
        refine ⟨by simp; omega, fun h => by simp at h, fun x hx => ?_⟩
        rcases List.mem_cons.1 hx with rfl | hx
        · omega
        · have := h3 x hx; omega
/-- The table of lines, as Parse says; the first tools are known. -/
def parseLs (full : Bool) : List To → List (List UInt8) → List To × Int × Int
  | acc, [] => if validT acc = true then (acc, (acc.length : Int), 0) else ([], 0, 1)
  | acc, a :: rest => if rest = [] ∧ full = false then ([], acc.length, 2) else match toolF a with
    | none => ([], acc.length, 2)
    | some t => parseLs full (acc ++ [t]) rest
theorem parse_lines : ∀ (n : Nat) (acc : List To) (l : List UInt8), l.length ≤ n → parseA acc l = parseLs (lnsF l).2 acc (lnsF l).1 := by
  intro n
  induction n with
  | zero =>
    intro acc l hl
    obtain rfl := List.length_eq_zero_iff.1 (Nat.le_zero.1 hl)
    rw [parseA_nil, lnsF_nil]
    rfl
  | succ n ih =>
    intro acc l hl
    by_cases h0 : l = []
    · subst h0; rw [parseA_nil, lnsF_nil]; rfl
    · cases hc : cutL 10 l with
      | none =>
        rw [parseA_none h0 hc, lnsF_none h0 hc]
        show _ = parseLs false acc [l]
        rw [parseLs, if_pos ⟨rfl, rfl⟩]
      | some p =>
        obtain ⟨a, r⟩ := p
        have hl2 := cut_less hc
        have h2 := (lnsF_len r.length r (Nat.le_refl _)).2.1
        rw [lnsF_cut hc, parseLs, if_neg (by rintro ⟨h3, h4⟩; rw [h2 h3] at h4; cases h4)]
        cases ht : toolF a with
        | none => rw [parseA_bad hc ht]
        | some t => rw [parseA_tool hc ht]; exact ih _ r (by omega)
theorem cut_seg (s : ByteArray) (f k : Nat) (hk : k < s.size) (hf : f ≤ k) (hb : byt s k = 10) (hno : ∀ j, f ≤ j → j < k → byt s j ≠ (10 : UInt8).toNat) : cutL 10 ((bl s).drop f) = some (bl (s.extract f k), (bl s).drop (k + 1)) := by
  rw [bl_extract, seg_split s f k 10 hk hf hb, cutL_app _ (seg_no s f k 10 (by omega) hno), ← seg_split s f k 10 hk hf hb]
theorem cut_endN (s : ByteArray) (f : Nat) (hf : f < s.size) (hno : ∀ j, f ≤ j → j < s.size → byt s j ≠ (10 : UInt8).toNat) : (bl s).drop f ≠ [] ∧ cutL 10 ((bl s).drop f) = none := by
  refine ⟨fun e => ?_, cutL_none.2 ?_⟩
  · have := congrArg List.length e
    rw [List.length_drop, bl_len] at this
    simp at this
    omega
  · have := seg_no s f s.size 10 (Nat.le_refl _) hno
    rwa [seg_end] at this
set_option maxRecDepth 100000 in
set_option maxHeartbeats 2000000 in
theorem lines_any (s : ByteArray) (hs : s.size ≤ 1000000) (w : World) : Calls Tryd.prog 36 #[.string s] w fun e w' => ∃ v, e = .returned (.tuple #[v, .bool (lnsF (bl s)).2]) ∧ w'.ownsRow w.heap.size 9 1 v (lnsF (bl s)).1.length (wordsC (lnsF (bl s)).1) ∧ Below w.heap.size w w' := by
  go_enter Tryd.func36, Tryd.ntmps36
  go_wp2_with fail
  go_loopw [2, 4, 5] (fun s2 s4 s5 wr => ∃ (f k : Nat) (ws : List (List UInt8)) (v2 : Value), v2 = s2 ∧ f ≤ k ∧ k ≤ s.size ∧ s4 = .int .i64 f ∧ s5 = .int .i64 k ∧ ws.length ≤ k ∧ (∀ j, f ≤ j → j < k → byt s j ≠ (10 : UInt8).toNat) ∧ lnsF (bl s) = (ws ++ (lnsF ((bl s).drop f)).1, (lnsF ((bl s).drop f)).2) ∧ wr.ownsRow w.heap.size 9 1 v2 ws.length (wordsC ws) ∧ Below w.heap.size w wr)
    (fun _ _ s5 _ => s.size - (intOf s5).toNat)
  case atStart => exact ⟨0, 0, [], _, rfl, by omega, by omega, rfl, rfl, by simp, fun j h1 h2 => by omega, by simp, World.ownsRow_nil _ _ _ _, Below.refl _ _⟩
  case round =>
    obtain ⟨f, k, ws, v2, rfl, hf, hk, rfl, rfl, hwl, hno, hsp, hown, bel⟩ := hrel
    have hsz := bel.size
    have HOWN := Lib.hid hown
    have BEL := Lib.hid bel
    have HNO := Lib.hid hno
    have HSP := Lib.hid hsp
    have HWL := Lib.hid hwl
    have j0 : (0 : Int) ≤ (f : Int) := by omega
    have j1 : (f : Int) ≤ (k : Int) := by omega
    have j2 : (k : Int) ≤ (s.size : Int) := by omega
    have j3 : (0 : Int) ≤ (k : Int) := by omega
    clear hown bel hno hsp hwl
    by_cases hlt : k < s.size
    · have e1 : decide (k < s.size) = true := decide_eq_true hlt
      have e1' : decide ((k : Int) < (s.size : Int)) = true := decide_eq_true (by omega)
      have i2 : (k : Int) < (s.size : Int) := by omega
      by_cases hb : byt s k = 10
      · have t10 := eqB hb
        have R : lnsF (bl s) = ((ws ++ [bl (s.extract f k)]) ++ (lnsF ((bl s).drop (k + 1))).1, (lnsF ((bl s).drop (k + 1))).2) := by
          rw [HSP.out, lnsF_cut (cut_seg s f k hlt hf hb HNO.out)]
          simp
        have R := Lib.hid R
        clear hb
        go_wp2_with (first
          | ((with_reducible refine go_str1 (.tmp 20) (s.extract f k) (by with_unfolding_all rfl) ?_))
          | ((with_reducible refine go_strapp (.tmp 16) (.tmp 21) ws (s.extract f k) _ (by with_unfolding_all rfl) (HOWN.out.alloc _) (by with_unfolding_all rfl) (by with_unfolding_all exact Blk.new wr _ _) (by have := HWL.out; omega) (by simp; omega) ?_); intro v' w4 hown4 hgrow; have bel4 : Below w.heap.size w w4 := (BEL.out.alloc (by omega) _).trans (below_of_grown hgrow (by simp; omega) (fun k e => ((HOWN.out).lt k e).1)); have FF := Lib.hid (And.intro hown4 bel4); clear hown4 bel4 hgrow))
        go_roundw
        case rel => exact ⟨k + 1, k + 1, ws ++ [bl (s.extract f k)], _, rfl, by omega, by omega, by go_num, by go_num, by rw [List.length_append]; simp; exact HWL.out, fun j h1 h2 => by omega, R.out, FF.out.1, FF.out.2⟩
        case measure => simp [intOf]; omega
      · have t10 := neB hb
        have HB := Lib.hid hb
        clear hb
        go_wp2_with fail
        go_roundw
        case rel => exact ⟨f, k + 1, ws, _, rfl, by omega, by omega, rfl, by go_num, by have := HWL.out; omega, fun j h1 h2 => by
          by_cases e : j = k
          · subst e; exact HB.out
          · exact HNO.out j h1 (by omega), HSP.out, HOWN.out, BEL.out⟩
        case measure => simp [intOf]; omega
    · obtain rfl : k = s.size := by omega
      have e1 : decide (s.size < s.size) = false := by simp
      have e1' : decide ((s.size : Int) < (s.size : Int)) = false := by simp
      by_cases hfe : f < s.size
      · have df : decide ((f : Int) < (s.size : Int)) = true := decide_eq_true (by omega)
        have df' : decide (f < s.size) = true := decide_eq_true hfe
        obtain ⟨c1, c2⟩ := cut_endN s f hfe HNO.out
        have R : lnsF (bl s) = (ws ++ [bl (s.extract f s.size)], false) := by
          rw [HSP.out, lnsF_none c1 c2, bl_extract, seg_end]
        have R := Lib.hid R
        clear c1 c2
        go_wp2_with (first
          | ((with_reducible refine go_str1 (.tmp 32) (s.extract f s.size) (by with_unfolding_all rfl) ?_))
          | ((with_reducible refine go_strapp (.tmp 29) (.tmp 33) ws (s.extract f s.size) _ (by with_unfolding_all rfl) (HOWN.out.alloc _) (by with_unfolding_all rfl) (by with_unfolding_all exact Blk.new wr _ _) (by have := HWL.out; omega) (by simp; omega) ?_); intro v' w4 hown4 hgrow; have bel4 : Below w.heap.size w w4 := (BEL.out.alloc (by omega) _).trans (below_of_grown hgrow (by simp; omega) (fun k e => ((HOWN.out).lt k e).1)); have FF := Lib.hid (And.intro hown4 bel4); clear hown4 bel4 hgrow))
        go_ret2
        exact ⟨_, by rw [R.out]; rfl, by rw [R.out]; exact FF.out.1, FF.out.2⟩
      · have df : decide ((f : Int) < (s.size : Int)) = false := decide_eq_false (by omega)
        have df' : decide (f < s.size) = false := decide_eq_false hfe
        have R : lnsF (bl s) = (ws, true) := by
          rw [HSP.out, List.drop_eq_nil_of_le (by rw [bl_len]; omega), lnsF_nil]
          simp
        have R := Lib.hid R
        go_wp2_with fail
        go_ret2
        exact ⟨_, by rw [R.out]; rfl, by rw [R.out]; exact HOWN.out, BEL.out⟩
end Go.Proofs.YtlpmbjgimllmgaaDoor
