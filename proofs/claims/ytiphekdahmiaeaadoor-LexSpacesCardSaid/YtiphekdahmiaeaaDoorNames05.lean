/-
  lex.Name, lex.longest, cncref05.Name and named: which names a string is or begins with. Any string.
-/
import Derived.Test.YtiphekdahmiaeaaDoorLeaf05
import Derived.Lib.Hide
import Derived.BigQuiet
import Derived.Deep.QuietTactic
namespace Go.Proofs.YtiphekdahmiaeaaDoor
open Go Go.RowKit
set_option linter.unusedVariables false

def namesC : Array Value := #[.string ⟨#[73, 70]⟩, .string ⟨#[71, 79, 84, 79]⟩, .string ⟨#[87, 72, 73, 76, 69]⟩, .string ⟨#[68, 79]⟩, .string ⟨#[69, 78, 68]⟩, .string ⟨#[69, 81]⟩, .string ⟨#[78, 69]⟩, .string ⟨#[71, 84]⟩, .string ⟨#[71, 69]⟩, .string ⟨#[76, 84]⟩, .string ⟨#[76, 69]⟩, .string ⟨#[65, 78, 68]⟩, .string ⟨#[79, 82]⟩, .string ⟨#[88, 79, 82]⟩, .string ⟨#[77, 79, 68]⟩, .string ⟨#[83, 73, 78]⟩, .string ⟨#[67, 79, 83]⟩, .string ⟨#[84, 65, 78]⟩, .string ⟨#[65, 84, 65, 78]⟩, .string ⟨#[83, 81, 82, 84]⟩, .string ⟨#[65, 66, 83]⟩, .string ⟨#[82, 79, 85, 78, 68]⟩, .string ⟨#[70, 73, 88]⟩, .string ⟨#[70, 85, 80]⟩]
theorem namesC_at (i : Nat) (h : i < 24) : namesC[i]? = some (.string (nmB i)) := by
  match i, h with
  | 0, _ => rfl
  | 1, _ => rfl
  | 2, _ => rfl
  | 3, _ => rfl
  | 4, _ => rfl
  | 5, _ => rfl
  | 6, _ => rfl
  | 7, _ => rfl
  | 8, _ => rfl
  | 9, _ => rfl
  | 10, _ => rfl
  | 11, _ => rfl
  | 12, _ => rfl
  | 13, _ => rfl
  | 14, _ => rfl
  | 15, _ => rfl
  | 16, _ => rfl
  | 17, _ => rfl
  | 18, _ => rfl
  | 19, _ => rfl
  | 20, _ => rfl
  | 21, _ => rfl
  | 22, _ => rfl
  | 23, _ => rfl
  | n + 24, h => exact absurd h (by omega)
theorem nm_run : ∀ (i : Nat), i < 24 → ∀ W : World, (Instr.index 60 (.agg namesC) (.int .i64 i)).run Tryd.prog W = .ok (.string (nmB i)) W
  | 0, _, W => by show (Instr.index 60 (.agg namesC) (.int .i64 0)).run Tryd.prog W = .ok (.string (nmB 0)) W; kernel_rfl
  | 1, _, W => by show (Instr.index 60 (.agg namesC) (.int .i64 1)).run Tryd.prog W = .ok (.string (nmB 1)) W; kernel_rfl
  | 2, _, W => by show (Instr.index 60 (.agg namesC) (.int .i64 2)).run Tryd.prog W = .ok (.string (nmB 2)) W; kernel_rfl
  | 3, _, W => by show (Instr.index 60 (.agg namesC) (.int .i64 3)).run Tryd.prog W = .ok (.string (nmB 3)) W; kernel_rfl
  | 4, _, W => by show (Instr.index 60 (.agg namesC) (.int .i64 4)).run Tryd.prog W = .ok (.string (nmB 4)) W; kernel_rfl
  | 5, _, W => by show (Instr.index 60 (.agg namesC) (.int .i64 5)).run Tryd.prog W = .ok (.string (nmB 5)) W; kernel_rfl
  | 6, _, W => by show (Instr.index 60 (.agg namesC) (.int .i64 6)).run Tryd.prog W = .ok (.string (nmB 6)) W; kernel_rfl
  | 7, _, W => by show (Instr.index 60 (.agg namesC) (.int .i64 7)).run Tryd.prog W = .ok (.string (nmB 7)) W; kernel_rfl
  | 8, _, W => by show (Instr.index 60 (.agg namesC) (.int .i64 8)).run Tryd.prog W = .ok (.string (nmB 8)) W; kernel_rfl
  | 9, _, W => by show (Instr.index 60 (.agg namesC) (.int .i64 9)).run Tryd.prog W = .ok (.string (nmB 9)) W; kernel_rfl
  | 10, _, W => by show (Instr.index 60 (.agg namesC) (.int .i64 10)).run Tryd.prog W = .ok (.string (nmB 10)) W; kernel_rfl
  | 11, _, W => by show (Instr.index 60 (.agg namesC) (.int .i64 11)).run Tryd.prog W = .ok (.string (nmB 11)) W; kernel_rfl
  | 12, _, W => by show (Instr.index 60 (.agg namesC) (.int .i64 12)).run Tryd.prog W = .ok (.string (nmB 12)) W; kernel_rfl
  | 13, _, W => by show (Instr.index 60 (.agg namesC) (.int .i64 13)).run Tryd.prog W = .ok (.string (nmB 13)) W; kernel_rfl
  | 14, _, W => by show (Instr.index 60 (.agg namesC) (.int .i64 14)).run Tryd.prog W = .ok (.string (nmB 14)) W; kernel_rfl
  | 15, _, W => by show (Instr.index 60 (.agg namesC) (.int .i64 15)).run Tryd.prog W = .ok (.string (nmB 15)) W; kernel_rfl
  | 16, _, W => by show (Instr.index 60 (.agg namesC) (.int .i64 16)).run Tryd.prog W = .ok (.string (nmB 16)) W; kernel_rfl
  | 17, _, W => by show (Instr.index 60 (.agg namesC) (.int .i64 17)).run Tryd.prog W = .ok (.string (nmB 17)) W; kernel_rfl
  | 18, _, W => by show (Instr.index 60 (.agg namesC) (.int .i64 18)).run Tryd.prog W = .ok (.string (nmB 18)) W; kernel_rfl
  | 19, _, W => by show (Instr.index 60 (.agg namesC) (.int .i64 19)).run Tryd.prog W = .ok (.string (nmB 19)) W; kernel_rfl
  | 20, _, W => by show (Instr.index 60 (.agg namesC) (.int .i64 20)).run Tryd.prog W = .ok (.string (nmB 20)) W; kernel_rfl
  | 21, _, W => by show (Instr.index 60 (.agg namesC) (.int .i64 21)).run Tryd.prog W = .ok (.string (nmB 21)) W; kernel_rfl
  | 22, _, W => by show (Instr.index 60 (.agg namesC) (.int .i64 22)).run Tryd.prog W = .ok (.string (nmB 22)) W; kernel_rfl
  | 23, _, W => by show (Instr.index 60 (.agg namesC) (.int .i64 23)).run Tryd.prog W = .ok (.string (nmB 23)) W; kernel_rfl
  | n + 24, h, _ => by omega
theorem nmB_size (i : Nat) : (nmB i).size ≤ 5 := by
  by_cases h : i < 24
  · match i, h with
    | 0, _ => decide
    | 1, _ => decide
    | 2, _ => decide
    | 3, _ => decide
    | 4, _ => decide
    | 5, _ => decide
    | 6, _ => decide
    | 7, _ => decide
    | 8, _ => decide
    | 9, _ => decide
    | 10, _ => decide
    | 11, _ => decide
    | 12, _ => decide
    | 13, _ => decide
    | 14, _ => decide
    | 15, _ => decide
    | 16, _ => decide
    | 17, _ => decide
    | 18, _ => decide
    | 19, _ => decide
    | 20, _ => decide
    | 21, _ => decide
    | 22, _ => decide
    | 23, _ => decide
    | n + 24, h => exact absurd h (by omega)
  · have : namesL.getD i [] = [] := by rw [List.getD_eq_getElem?_getD, List.getElem?_eq_none (by have : namesL.length = 24 := rfl; omega)]; rfl
    unfold nmB
    rw [this]
    decide
/-- The table of the names lies in memory. -/
def NamesIs (w : World) : Prop := w.var? Tryd.prog "cnc/lex.names" = some namesC
theorem gNames : Tryd.prog.globalNamed "cnc/lex.names" = some 0 := by kernel_rfl
theorem NamesIs.row {w : World} (h : NamesIs w) : ∃ t fr, w.heap[0]? = some (.cells namesC t fr) := by
  unfold NamesIs World.var? at h
  rw [gNames] at h
  simp only [Option.bind_some] at h
  split at h
  · rename_i cs t fr e
    injection h with h
    subst h
    exact ⟨t, fr, e⟩
  · cases h
theorem NamesIs.below {B : Nat} {w w' : World} (h : NamesIs w) (hb : Below B w w') (hB : 0 < B) : NamesIs w' := var?_below hb gNames hB h
theorem info24 : (Tryd.prog.info? 60).map (·.size) = some namesC.size := by kernel_rfl
theorem go_load_fr {P : Program} {ops : Array Oper} {rest : List Oper} {a : Act} {w : World} {Q : Exit → Act → World → Prop} {dst : Option Tmp} {ty0 : TypeId} {pos : String} {after : Array Edge} (ty : TypeId) (x : Operand) (g : Nat) (t : TypeId) (fr : Nat × Nat) (cs : Array Value) (d : TypeDesc) (hx : a.eval x = .pointer (some ⟨g, 0, none⟩)) (hg : w.heap[g]? = some (.cells cs t fr))
    (hu : P.underlying ty = some d) (hd : (match d with | .struct _ | .array _ _ => true | _ => false) = true) (hi : (P.info? ty).map (·.size) = some cs.size)
    (h : wpList P ops Q rest (a.put dst (.agg cs)) w) : wpList P ops Q (⟨dst, .load ty x, ty0, pos, after, none⟩ :: rest) a w :=
  wpList_load_row rfl ty x rfl g hx t cs fr d hg hu hd hi h
attribute [local go_sem ↓] nm_run

theorem prefix_take (s p : ByteArray) (h : p.size ≤ s.size) : ((s.extract 0 p.size).toList == p.toList) = (bl p).isPrefixOf (bl s) := by
  rw [toList_bl, toList_bl, bl_extract, List.drop_zero, Nat.sub_zero, Bool.eq_iff_iff, beq_iff_eq, List.isPrefixOf_iff_prefix, List.prefix_iff_eq_take, bl_len]
  exact eq_comm
theorem prefix_long (s p : ByteArray) (h : s.size < p.size) : (bl p).isPrefixOf (bl s) = false := by
  rw [Bool.eq_false_iff, Ne, List.isPrefixOf_iff_prefix]
  intro hp
  have := hp.length_le
  rw [bl_len, bl_len] at this
  omega
theorem hasprefix0_any (s p : ByteArray) (hs : s.size ≤ 9223372036854775807) (hp : p.size ≤ 9223372036854775807) (w : World) : Calls Tryd.prog 41 #[.string s, .string p] w fun e w' => e = .returned (.bool ((bl p).isPrefixOf (bl s))) ∧ w = w' := by
  by_cases h : p.size ≤ s.size
  · rw [← prefix_take s p h]
    have d1 : decide (p.size ≤ s.size) = true := by simpa using h
    go_enter Tryd.func41, Tryd.ntmps41
    go_wp2
    go_ret
    exact ⟨rfl, rfl⟩
  · rw [prefix_long s p (by omega)]
    have d1 : decide (p.size ≤ s.size) = false := by simpa using h
    go_enter Tryd.func41, Tryd.ntmps41
    go_wp2
    go_ret
    exact ⟨rfl, rfl⟩
theorem hasprefix_any (s p : ByteArray) (hs : s.size ≤ 9223372036854775807) (hp : p.size ≤ 9223372036854775807) (w : World) : Calls Tryd.prog 37 #[.string s, .string p] w fun e w' => e = .returned (.bool ((bl p).isPrefixOf (bl s))) ∧ w = w' := by
  have K := Lib.hid (hasprefix0_any s p hs hp w)
  generalize (bl p).isPrefixOf (bl s) = b at *
  go_enter Tryd.func37, Tryd.ntmps37
  go_wp2_with fail
  refine K.out.mono ?_
  rintro e w' ⟨rfl, rfl⟩
  go_wp2_with fail
  go_ret
  exact ⟨rfl, rfl⟩

set_option maxRecDepth 100000 in
theorem longest_any (s : ByteArray) (hs : s.size ≤ 9223372036854775807) (w : World) (hN : NamesIs w) : Calls Tryd.prog 26 #[.string s] w fun e w' => e = .returned (.string (mkB (longest (bl s)))) ∧ w = w' := by
  obtain ⟨t, fr, hrow⟩ := hN.row
  have HR := Lib.hid hrow
  clear hrow
  go_enter Tryd.func26, Tryd.ntmps26
  go_wp2_with ((with_reducible refine go_load_fr 60 _ 0 t fr namesC _ (by with_unfolding_all rfl) (by with_unfolding_all exact HR.out) Tryd.underlying60 (by with_unfolding_all rfl) (by with_unfolding_all exact info24) ?_))
  go_loopw [3, 7] (fun s3 s7 wr => ∃ (i : Nat) (B : ByteArray), i ≤ 24 ∧ s7 = .int .i64 i ∧ s3 = .string B ∧ B.size ≤ 5 ∧ longG (bl s) (namesL.drop i) (bl B) = longest (bl s) ∧ w = wr)
    (fun _ s7 _ => 24 - (intOf s7).toNat)
  case atStart => exact ⟨0, ⟨#[]⟩, by omega, rfl, rfl, by decide, rfl, rfl⟩
  case round =>
    obtain ⟨i, B, hi, rfl, rfl, hB, hl, rfl⟩ := hrel
    by_cases hlt : i < 24
    · have d1 : decide (i < 24) = true := by simpa using hlt
      have i0 : (0 : Int) ≤ (i : Int) := by omega
      have i1 : (i : Int) < 24 := by omega
      have hn := nmB_size i
      rw [longG_drop hlt, bl_len] at hl
      have K := fun W => hasprefix_any s (nmB i) hs (by omega) W
      by_cases h1 : B.size < (nmB i).size
      · have d2 : decide (B.size < (nmB i).size) = true := by simpa using h1
        cases hb : (bl (nmB i)).isPrefixOf (bl s)
        · simp only [hb] at K
          rw [hb, if_neg (by simp)] at hl
          have HL := Lib.hid hl
          have KK := Lib.hid K
          clear hl hb K
          go_wp2_with fail
          refine (KK.out _).mono ?_
          rintro e w' ⟨rfl, rfl⟩
          go_wp2_with fail
          go_roundw
          case rel => exact ⟨i + 1, B, by omega, by go_num, rfl, hB, HL.out, trivial⟩
          case measure => simp [intOf]; omega
        · simp only [hb] at K
          rw [hb, if_pos ⟨h1, rfl⟩] at hl
          have HL := Lib.hid hl
          have KK := Lib.hid K
          clear hl hb K
          go_wp2_with fail
          refine (KK.out _).mono ?_
          rintro e w' ⟨rfl, rfl⟩
          go_wp2_with fail
          go_roundw
          case rel => exact ⟨i + 1, nmB i, by omega, by go_num, rfl, hn, HL.out, trivial⟩
          case measure => simp [intOf]; omega
      · have d2 : decide (B.size < (nmB i).size) = false := by simpa using h1
        rw [if_neg (fun x => h1 x.1)] at hl
        have HL := Lib.hid hl
        clear hl K
        go_wp2_with fail
        go_roundw
        case rel => exact ⟨i + 1, B, by omega, by go_num, rfl, hB, HL.out, trivial⟩
        case measure => simp [intOf]; omega
    · obtain rfl : i = 24 := by omega
      have E := Lib.hid (show B = mkB (longest (bl s)) by rw [← hl]; exact (mkB_bl B).symm)
      have d1 : decide (24 < 24) = false := rfl
      clear hl
      go_wp2_with fail
      go_ret
      exact ⟨by rw [← E.out]; rfl, rfl⟩
theorem neq_of {a b : ByteArray} (h : bl a ≠ bl b) : (a.toList == b.toList) = false := by rw [toList_bl, toList_bl]; simpa using h
theorem eq_of {a b : ByteArray} (h : bl a = bl b) : (a.toList == b.toList) = true := by rw [toList_bl, toList_bl]; simpa using h
set_option maxRecDepth 100000 in
theorem name_any (s : ByteArray) (w : World) (hN : NamesIs w) : Calls Tryd.prog 18 #[.string s] w fun e w' => e = .returned (.bool (isName (bl s))) ∧ w = w' := by
  obtain ⟨t, fr, hrow⟩ := hN.row
  have HR := Lib.hid hrow
  clear hrow
  go_enter Tryd.func18, Tryd.ntmps18
  go_wp2_with ((with_reducible refine go_load_fr 60 _ 0 t fr namesC _ (by with_unfolding_all rfl) (by with_unfolding_all exact HR.out) Tryd.underlying60 (by with_unfolding_all rfl) (by with_unfolding_all exact info24) ?_))
  go_loopw [6] (fun s6 wr => ∃ i : Nat, i ≤ 24 ∧ s6 = .int .i64 i ∧ (∀ k, k < i → bl s ≠ bl (nmB k)) ∧ w = wr)
    (fun s6 _ => 24 - (intOf s6).toNat)
  case atStart => exact ⟨0, by omega, rfl, fun k h => by omega, rfl⟩
  case round =>
    obtain ⟨i, hi, rfl, hall, rfl⟩ := hrel
    have HA := Lib.hid hall
    clear hall
    by_cases hlt : i < 24
    · have d1 : decide (i < 24) = true := by simpa using hlt
      have i0 : (0 : Int) ≤ (i : Int) := by omega
      have i1 : (i : Int) < 24 := by omega
      by_cases h1 : bl s = bl (nmB i)
      · have d2 := eq_of h1
        have E := Lib.hid (isName_yes h1 hlt)
        clear h1
        go_wp2_with fail
        go_ret
        exact ⟨by rw [E.out]; rfl, rfl⟩
      · have d2 := neq_of h1
        have HN := Lib.hid h1
        clear h1
        go_wp2_with fail
        go_roundw
        case rel => exact ⟨i + 1, by omega, by go_num, fun k hk => by
          by_cases e : k = i
          · subst e; exact HN.out
          · exact HA.out k (by omega), trivial⟩
        case measure => simp [intOf]; omega
    · obtain rfl : i = 24 := by omega
      have E := Lib.hid (isName_no HA.out (Nat.le_refl _))
      have d1 : decide (24 < 24) = false := rfl
      go_wp2_with fail
      go_ret
      exact ⟨by rw [E.out]; rfl, rfl⟩
theorem infoStr : (Tryd.prog.info? 9).map (fun i => (i.zero, i.size, i.bytes)) = some (some (.string ⟨#[]⟩), 1, 16) := by kernel_rfl
theorem names_any (w : World) : Calls Tryd.prog 34 #[] w fun e w' => e = .returned (.slice (some ⟨w.heap.size, 0, none⟩) 24 24) ∧ w' = w.alloc (.cells namesC 9) := by
  obtain ⟨i0, hi, hz0, hz1, hz2⟩ := info_parts infoStr
  go_enter Tryd.func34, Tryd.ntmps34
  go_wp2_with ((with_reducible refine go_buildSlice 34 9 24 _ namesC i0 _ Tryd.underlying34 hi hz0 (by rw [hz1]; decide) (by rw [hz1]; decide) (by rw [hz1]; with_unfolding_all kernel_rfl) ?_))
  go_ret
  exact ⟨rfl, rfl⟩
end Go.Proofs.YtiphekdahmiaeaaDoor
