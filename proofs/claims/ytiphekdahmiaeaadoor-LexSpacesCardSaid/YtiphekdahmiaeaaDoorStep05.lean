/-
  One step at an offset of a string. No condition.
-/
import Derived.Test.YtiphekdahmiaeaaDoorSpec05
import Derived.Test.YtiphekdahmiaeaaDoorBlank05
namespace Go.Proofs.YtiphekdahmiaeaaDoor
open Go Go.RowKit
set_option linter.unusedVariables false

theorem u8_59 (c : UInt8) : c = 59 ↔ (c.toNat : Int) = 59 := ⟨by rintro rfl; rfl, fun e => UInt8.toNat_inj.1 (by simpa using (by omega : c.toNat = 59))⟩
theorem u8_40 (c : UInt8) : c = 40 ↔ (c.toNat : Int) = 40 := ⟨by rintro rfl; rfl, fun e => UInt8.toNat_inj.1 (by simpa using (by omega : c.toNat = 40))⟩
section
variable {s : ByteArray} {k : Nat}
theorem st_blank (hk : k < s.size) (h : blankB (byt s k) = true) : stepL ((bl s).drop k) = some (none, 1) := by
  obtain ⟨c, e1, e2⟩ := drop_byt s k hk
  rw [e1, stepL, ← e2, if_pos h]
theorem st_semi (hk : k < s.size) (h : byt s k = 59) : stepL ((bl s).drop k) = some (none, s.size - k) := by
  obtain ⟨c, e1, e2⟩ := drop_byt s k hk
  have hl : ((bl s).drop (k + 1)).length + 1 = s.size - k := by rw [List.length_drop, bl_len]; omega
  rw [e1, stepL, ← e2, if_neg (by unfold blankB; simp; omega), if_pos ((u8_59 c).2 (by rw [← e2]; exact h)), hl]
theorem st_par (hk : k < s.size) (h : byt s k = 40) : stepL ((bl s).drop k) = if Lib.indexByte ((bl s).drop k) 41 = -1 then none else some (none, (Lib.indexByte ((bl s).drop k) 41).toNat + 1) := by
  obtain ⟨c, e1, e2⟩ := drop_byt s k hk
  rw [e1, stepL, ← e2, if_neg (by unfold blankB; simp; omega), if_neg (fun e => by have := (u8_59 c).1 e; omega), if_pos ((u8_40 c).2 (by rw [← e2]; exact h))]
theorem st_num (hk : k < s.size) (h1 : blankB (byt s k) = false) (h2 : byt s k ≠ 59) (h3 : byt s k ≠ 40) (h : numB (byt s k) = true) :
    stepL ((bl s).drop k) = match parseF (numT s k) with | some n => some (some (2, n, []), (numT s k).length) | none => none := by
  obtain ⟨c, e1, e2⟩ := drop_byt s k hk
  unfold numT
  rw [e1, stepL, ← e2, if_neg (by rw [h1]; simp), if_neg (fun e => h2 (by rw [e2]; exact (u8_59 c).1 e)), if_neg (fun e => h3 (by rw [e2]; exact (u8_40 c).1 e)), if_pos (by show numB c.toNat = true; rw [← e2]; exact h)]
  cases parseF (List.takeWhile num (c :: List.drop (k + 1) (bl s))) <;> rfl
theorem st_lett (hk : k < s.size) (h : lettB (byt s k) = true) :
    stepL ((bl s).drop k) = if longest ((bl s).drop k) = [] then some (some (1, byt s k, []), 1) else some (some (3, 0, longest ((bl s).drop k)), (longest ((bl s).drop k)).length) := by
  obtain ⟨c, e1, e2⟩ := drop_byt s k hk
  have hb : 65 ≤ byt s k ∧ byt s k ≤ 90 := by unfold lettB at h; simpa using h
  rw [e1, stepL, ← e2, if_neg (by unfold blankB; simp; omega), if_neg (fun e => by have := (u8_59 c).1 e; omega), if_neg (fun e => by have := (u8_40 c).1 e; omega), if_neg (by show ¬ numB c.toNat = true; rw [← e2]; unfold numB digB; simp; omega), if_pos h]
theorem st_sgn (hk : k < s.size) (h0 : numB (byt s k) = false) (hl : lettB (byt s k) = false) (h1 : blankB (byt s k) = false) (h2 : byt s k ≠ 59) (h3 : byt s k ≠ 40) :
    stepL ((bl s).drop k) = if sgnB (byt s k) = true then some (some (4, 0, ((bl s).drop k).take 1), 1) else none := by
  obtain ⟨c, e1, e2⟩ := drop_byt s k hk
  rw [e1, stepL, ← e2, if_neg (by rw [h1]; simp), if_neg (fun e => h2 (by rw [e2]; exact (u8_59 c).1 e)), if_neg (fun e => h3 (by rw [e2]; exact (u8_40 c).1 e)), if_neg (by show ¬ numB c.toNat = true; rw [← e2, h0]; simp), if_neg (by rw [hl]; simp)]
  rfl
theorem longG_mem {l : List UInt8} : ∀ (ns : List (List UInt8)) (b : List UInt8), longG l ns b = b ∨ longG l ns b ∈ ns
  | [], b => .inl rfl
  | nm :: ns, b => by
    rw [longG]
    rcases longG_mem ns (if b.length < nm.length ∧ nm.isPrefixOf l = true then nm else b) with h | h
    · rw [h]
      split
      · exact .inr (List.mem_cons_self)
      · exact .inl rfl
    · exact .inr (List.mem_cons_of_mem _ h)
theorem names_head : ∀ nm ∈ namesL, ∃ c r, nm = c :: r ∧ lettB (c : UInt8).toNat = true := by
  intro nm h
  have hall : (namesL.all fun nm => match nm with | c :: _ => lettB (c : UInt8).toNat | [] => false) = true := by decide
  have := List.all_eq_true.1 hall nm h
  cases nm with
  | nil => simp at this
  | cons c r => exact ⟨c, r, rfl, this⟩
theorem longest_lett {l : List UInt8} (h : longest l ≠ []) : ∃ c r, l = c :: r ∧ lettB c.toNat = true := by
  rcases longG_mem (l := l) namesL [] with e | e
  · exact absurd e h
  · obtain ⟨c, r, e1, e2⟩ := names_head _ e
    obtain ⟨t, ht⟩ := longest_prefix l
    have e1' : longest l = c :: r := e1
    rw [e1'] at ht
    exact ⟨c, r ++ t, by rw [← ht]; rfl, e2⟩
theorem longest_none (hk : k < s.size) (hl : lettB (byt s k) = false) : longest ((bl s).drop k) = [] := by
  obtain ⟨c, e1, e2⟩ := drop_byt s k hk
  refine Classical.byContradiction fun h => ?_
  obtain ⟨c', r, e3, e4⟩ := longest_lett h
  rw [e1] at e3
  injection e3 with e3 _
  rw [← e3, ← e2, hl] at e4
  cases e4
theorem longest_le5 (l : List UInt8) : (longest l).length ≤ 5 := by
  rcases longG_mem (l := l) namesL [] with e | e
  · have e' : longest l = [] := e
    rw [e']; simp
  · have hall : (namesL.all fun nm => decide (nm.length ≤ 5)) = true := by decide
    exact of_decide_eq_true (List.all_eq_true.1 hall _ e)
theorem sgn_idx (c : Int) (h0 : 0 ≤ c) (h1 : c ≤ 255) : (Lib.indexByte [43, 45, 42, 47, 61, 35, 91, 93] c.toNat.toUInt8 = -1 ↔ sgnB c = false) := by
  obtain ⟨n, rfl⟩ := Int.eq_ofNat_of_zero_le h0
  have hn : n < 256 := by omega
  have hall : ∀ n : Nat, n < 256 → ((Lib.indexByte [43, 45, 42, 47, 61, 35, 91, 93] (n : Int).toNat.toUInt8 = -1) ↔ (sgnB (n : Int) = false)) := by decide +kernel
  exact hall n hn
end
def TokPost (r : Res) (n : Nat) (w : World) (e : Ending) (w' : World) : Prop :=
  match r with
  | .bad a => e = .returned (.tuple #[.slice none 0 0, .int .i64 a, .int .i64 2]) ∧ Below w.heap.size w w'
  | .ok ts => ∃ v, e = .returned (.tuple #[v, .int .i64 n, .int .i64 0]) ∧ w'.ownsRow w.heap.size 39 4 v ts.length (toksC ts) ∧ Below w.heap.size w w'
theorem fin_bad {r : Res} {n a : Nat} {w w' : World} (h : r = .bad a) (hb : Below w.heap.size w w') : TokPost r n w (.returned (.tuple #[.slice none 0 0, .int .i64 a, .int .i64 2])) w' := by subst h; exact ⟨rfl, hb⟩
theorem fin_ok {r : Res} {n : Nat} {ts : List TokL} {v : Value} {w w' : World} (h : r = .ok ts) (ho : w'.ownsRow w.heap.size 39 4 v ts.length (toksC ts)) (hb : Below w.heap.size w w') : TokPost r n w (.returned (.tuple #[v, .int .i64 n, .int .i64 0])) w' := by subst h; exact ⟨v, rfl, ho, hb⟩
theorem infoTok : (Tryd.prog.info? 39).map (fun i => (i.zero, i.size, i.bytes)) = some (some (.agg #[.int .i64 0, .int .i64 0, .int .i64 0, .string ⟨#[]⟩]), 4, 40) := by kernel_rfl
theorem tok_made (W : World) (t : TokL) : ∀ j u, (tokC t)[j]? = some u → (W.alloc (.cells (tokC t).toArray 39)).cell? ((⟨W.heap.size, 0, none⟩ : Addr).add j) = some u := by
  intro j u hu
  rw [Addr.add_mid, Nat.zero_add, (Blk.new W 39 (tokC t).toArray).cell]
  simpa using hu
theorem tok_one (t : TokL) : ∀ u ∈ tokC t, u.oneCell' = true := by
  intro u hu
  simp [tokC] at hu
  rcases hu with rfl | rfl | rfl | rfl <;> rfl
theorem tok_fill (a b c : Int) (B : ByteArray) : Instr.fill (fun i => some (i * 4, 4)) ((Array.range (1 * 4)).map ((Value.agg #[.int .i64 0, .int .i64 0, .int .i64 0, .string ⟨#[]⟩]).cells[· % (Value.agg #[.int .i64 0, .int .i64 0, .int .i64 0, .string ⟨#[]⟩]).cells.size]!)) [(0, .agg #[.int .i64 a, .int .i64 b, .int .i64 c, .string B])] = some #[.int .i64 a, .int .i64 b, .int .i64 c, .string B] := by with_unfolding_all kernel_rfl
theorem go_tok1 {ops : Array Oper} {rest : List Oper} {a : Act} {w : World} {Q : Exit → Act → World → Prop} {dst : Option Tmp} {ty0 : TypeId} {pos : String} {after : Array Edge} (x : Operand) (k n p : Int) (B : ByteArray) (hx : a.eval x = .agg #[.int .i64 k, .int .i64 n, .int .i64 p, .string B])
    (h : wpList Tryd.prog ops Q rest (a.put dst (.slice (some ⟨w.heap.size, 0, none⟩) 1 1)) (w.alloc (.cells #[.int .i64 k, .int .i64 n, .int .i64 p, .string B] 39))) : wpList Tryd.prog ops Q (⟨dst, .buildSlice 28 1 #[(0, x)], ty0, pos, after, none⟩ :: rest) a w := by
  obtain ⟨i0, hi, hz0, hz1, hz2⟩ := info_parts infoTok
  refine go_buildSlice 28 39 1 _ #[.int .i64 k, .int .i64 n, .int .i64 p, .string B] i0 _ Tryd.underlying28 hi hz0 (by rw [hz1]; decide) (by rw [hz1]; decide) ?_ h
  rw [hz1]
  simp only [List.map_toArray, List.map_cons, List.map_nil, hx]
  exact tok_fill _ _ _ _
/-- append of one token that lies in a block of its own. -/
theorem go_append1 {ops : Array Oper} {rest : List Oper} {a : Act} {w : World} {Q : Exit → Act → World → Prop} {dst : Option Tmp} {ty0 : TypeId} {pos : String} {after : Array Edge} (x y : Operand) {base : Nat} {v : Value} (ts : List TokL) (t : TokL) (g : Nat)
    (hx : a.eval x = v) (hown : w.ownsRow base 39 4 v ts.length (toksC ts)) (hy : a.eval y = .slice (some ⟨g, 0, none⟩) 1 1) (hg : Blk w g 39 (tokC t).toArray) (hn : ts.length ≤ 1000000) (hb : base ≤ w.heap.size)
    (h : ∀ v' w', w'.ownsRow base 39 4 v' (ts ++ [t]).length (toksC (ts ++ [t])) → w.grownBy w' v.ownBlock → wpList Tryd.prog ops Q rest (a.put dst v') w') : wpList Tryd.prog ops Q (⟨dst, .call { callee := .builtin .append, args := #[x, y], argTypes := #[28, 28] }, ty0, pos, after, none⟩ :: rest) a w := by
  obtain ⟨i0, hi, hz0, hz1, hz2⟩ := info_parts infoTok
  refine wpList_append_lies w rfl x y 28 rfl base 39 i0 (.agg #[.int .i64 0, .int .i64 0, .int .i64 0, .string ⟨#[]⟩]) 4 40 Tryd.underlying28 hi hz0 hz1 hz2 (by kernel_rfl) (by decide) v ts.length (toksC ts) hx hown ⟨g, 0, none⟩ 1 1 (tokC t) hy rfl ?_ (tok_one t) (by omega) (by unfold maxLen; omega) (by omega) hb w.heap.size rfl ?_
  · intro j u hu
    rw [Addr.add_mid, Nat.zero_add, hg.cell]
    simpa using hu
  · intro g' c' w' hown' hgrow _ _
    rw [← toksC_snoc] at hown'
    have e : ts.length + 1 = (ts ++ [t]).length := by simp
    rw [e] at hown'
    have := h (.slice (some ⟨g', 0, none⟩) (ts ++ [t]).length c') w' hown' hgrow
    rw [← e] at this
    exact this
end Go.Proofs.YtiphekdahmiaeaaDoor
