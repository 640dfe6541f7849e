/-
  lex.blank and lex.number: what they return at an offset. Any string.
-/
import Derived.Test.YtiphekdahmiaeaaDoorSpec05
import Derived.Test.YtiphekdahmiaeaaDoorParse05
import Derived.Test.YtiphekdahmiaeaaDoorNames05
import Derived.Test.YtiphekdahmiaeaaDoorIdx05
namespace Go.Proofs.YtiphekdahmiaeaaDoor
open Go Go.RowKit
set_option linter.unusedVariables false
attribute [local go_sem ↓] ix_run

theorem neB {c : Int} {n : Int} (h : c ≠ n) : (c == n) = false := by simpa using h
theorem eqB {c : Int} {n : Int} (h : c = n) : (c == n) = true := by simpa using h
theorem blank_32 (s : ByteArray) (k : Nat) (hk : k < s.size) (hs : s.size ≤ 1000000) (h : byt s k = 32) (w : World) :
    Calls Tryd.prog 25 #[.string s, .int .i64 k] w fun e w' => e = .returned (.tuple #[.int .i64 ((k : Int) + 1), .bool true]) ∧ w = w' := by
  have k0 : (0 : Int) ≤ (k : Int) := by omega
  have k1 : (k : Int) ≤ (s.size : Int) := by omega
  have t32 := eqB (show byt s k = 32 by omega)
  clear h
  go_enter Tryd.func25, Tryd.ntmps25
  go_wp2_with fail
  go_ret2
  exact ⟨rfl, rfl⟩
theorem blank_9 (s : ByteArray) (k : Nat) (hk : k < s.size) (hs : s.size ≤ 1000000) (h : byt s k = 9) (w : World) :
    Calls Tryd.prog 25 #[.string s, .int .i64 k] w fun e w' => e = .returned (.tuple #[.int .i64 ((k : Int) + 1), .bool true]) ∧ w = w' := by
  have k0 : (0 : Int) ≤ (k : Int) := by omega
  have k1 : (k : Int) ≤ (s.size : Int) := by omega
  have t32 := neB (show byt s k ≠ 32 by omega)
  have t9 := eqB (show byt s k = 9 by omega)
  clear h
  go_enter Tryd.func25, Tryd.ntmps25
  go_wp2_with fail
  go_ret2
  exact ⟨rfl, rfl⟩
theorem blank_13 (s : ByteArray) (k : Nat) (hk : k < s.size) (hs : s.size ≤ 1000000) (h : byt s k = 13) (w : World) :
    Calls Tryd.prog 25 #[.string s, .int .i64 k] w fun e w' => e = .returned (.tuple #[.int .i64 ((k : Int) + 1), .bool true]) ∧ w = w' := by
  have k0 : (0 : Int) ≤ (k : Int) := by omega
  have k1 : (k : Int) ≤ (s.size : Int) := by omega
  have t32 := neB (show byt s k ≠ 32 by omega)
  have t9 := neB (show byt s k ≠ 9 by omega)
  have t13 := eqB (show byt s k = 13 by omega)
  clear h
  go_enter Tryd.func25, Tryd.ntmps25
  go_wp2_with fail
  go_ret2
  exact ⟨rfl, rfl⟩
theorem blank_sep (s : ByteArray) (k : Nat) (hk : k < s.size) (hs : s.size ≤ 1000000) (hb : blankB (byt s k) = true) (w : World) :
    Calls Tryd.prog 25 #[.string s, .int .i64 k] w fun e w' => e = .returned (.tuple #[.int .i64 ((k : Int) + 1), .bool true]) ∧ w = w' := by
  have hc : byt s k = 32 ∨ byt s k = 9 ∨ byt s k = 13 := by unfold blankB at hb; simpa using hb
  rcases hc with h | h | h
  · exact blank_32 s k hk hs h w
  · exact blank_9 s k hk hs h w
  · exact blank_13 s k hk hs h w
theorem blank_semi (s : ByteArray) (k : Nat) (hk : k < s.size) (hs : s.size ≤ 1000000) (h : byt s k = 59) (w : World) :
    Calls Tryd.prog 25 #[.string s, .int .i64 k] w fun e w' => e = .returned (.tuple #[.int .i64 s.size, .bool true]) ∧ w = w' := by
  have k0 : (0 : Int) ≤ (k : Int) := by omega
  have k1 : (k : Int) ≤ (s.size : Int) := by omega
  have t32 := neB (show byt s k ≠ 32 by omega)
  have t9 := neB (show byt s k ≠ 9 by omega)
  have t13 := neB (show byt s k ≠ 13 by omega)
  have t59 := eqB (show byt s k = 59 by omega)
  clear h
  go_enter Tryd.func25, Tryd.ntmps25
  go_wp2_with fail
  go_ret2
  exact ⟨rfl, rfl⟩
theorem blank_yes (s : ByteArray) (k : Nat) (hk : k < s.size) (hs : s.size ≤ 1000000) (h : byt s k = 40) (o : Nat) (ho : Lib.indexByte ((bl s).drop k) 41 = o) (hol : k + o < s.size) (w : World) :
    Calls Tryd.prog 25 #[.string s, .int .i64 k] w fun e w' => e = .returned (.tuple #[.int .i64 ((k : Int) + o + 1), .bool true]) ∧ w = w' := by
  have k0 : (0 : Int) ≤ (k : Int) := by omega
  have k1 : (k : Int) ≤ (s.size : Int) := by omega
  have t32 := neB (show byt s k ≠ 32 by omega)
  have t9 := neB (show byt s k ≠ 9 by omega)
  have t13 := neB (show byt s k ≠ 13 by omega)
  have t59 := neB (show byt s k ≠ 59 by omega)
  have t40 := eqB (show byt s k = 40 by omega)
  clear h
  have KI := Tryd.strings_IndexByte (s.extract k s.size) 41 w
  have eI : Lib.indexByte (s.extract k s.size).data.toList (41 : Int).toNat.toUInt8 = Lib.indexByte ((bl s).drop k) 41 := by
    have : (s.extract k s.size).data.toList = (bl s).drop k := by
      show bl (s.extract k s.size) = _
      rw [bl_extract, List.take_of_length_le (by rw [List.length_drop, bl_len]; omega)]
    rw [this]; rfl
  rw [eI] at KI
  have hge := Lib.indexByte_ge ((bl s).drop k) 41
  rw [ho] at KI
  have KI := Lib.hid KI
  have o0 : decide ((0 : Int) ≤ (o : Int)) = true := by simp
  clear eI hge ho
  go_enter Tryd.func25, Tryd.ntmps25
  go_wp2_with fail
  refine KI.out.mono ?_
  rintro e w' ⟨rfl, rfl⟩
  go_wp2_with fail
  go_ret2
  exact ⟨rfl, rfl⟩
theorem blank_no (s : ByteArray) (k : Nat) (hk : k < s.size) (hs : s.size ≤ 1000000) (h : byt s k = 40) (ho : Lib.indexByte ((bl s).drop k) 41 = -1) (w : World) :
    Calls Tryd.prog 25 #[.string s, .int .i64 k] w fun e w' => e = .returned (.tuple #[.int .i64 ((k : Int) + -1 + 1), .bool false]) ∧ w = w' := by
  have k0 : (0 : Int) ≤ (k : Int) := by omega
  have k1 : (k : Int) ≤ (s.size : Int) := by omega
  have t32 := neB (show byt s k ≠ 32 by omega)
  have t9 := neB (show byt s k ≠ 9 by omega)
  have t13 := neB (show byt s k ≠ 13 by omega)
  have t59 := neB (show byt s k ≠ 59 by omega)
  have t40 := eqB (show byt s k = 40 by omega)
  clear h
  have KI := Tryd.strings_IndexByte (s.extract k s.size) 41 w
  have eI : Lib.indexByte (s.extract k s.size).data.toList (41 : Int).toNat.toUInt8 = Lib.indexByte ((bl s).drop k) 41 := by
    have : (s.extract k s.size).data.toList = (bl s).drop k := by
      show bl (s.extract k s.size) = _
      rw [bl_extract, List.take_of_length_le (by rw [List.length_drop, bl_len]; omega)]
    rw [this]; rfl
  rw [eI] at KI
  have hge := Lib.indexByte_ge ((bl s).drop k) 41
  rw [ho] at KI
  have KI := Lib.hid KI
  clear eI hge ho
  go_enter Tryd.func25, Tryd.ntmps25
  go_wp2_with fail
  refine KI.out.mono ?_
  rintro e w' ⟨rfl, rfl⟩
  go_wp2_with fail
  go_ret2
  exact ⟨rfl, rfl⟩
theorem blank_else (s : ByteArray) (k : Nat) (hk : k < s.size) (hs : s.size ≤ 1000000) (h1 : blankB (byt s k) = false) (h2 : byt s k ≠ 59) (h3 : byt s k ≠ 40) (w : World) :
    Calls Tryd.prog 25 #[.string s, .int .i64 k] w fun e w' => e = .returned (.tuple #[.int .i64 (k : Int), .bool true]) ∧ w = w' := by
  have k0 : (0 : Int) ≤ (k : Int) := by omega
  have k1 : (k : Int) ≤ (s.size : Int) := by omega
  have hc : ¬ (byt s k = 32 ∨ byt s k = 9 ∨ byt s k = 13) := by unfold blankB at h1; simpa using h1
  have t32 := neB (show byt s k ≠ 32 by omega)
  have t9 := neB (show byt s k ≠ 9 by omega)
  have t13 := neB (show byt s k ≠ 13 by omega)
  have t59 := neB (show byt s k ≠ 59 by omega)
  have t40 := neB (show byt s k ≠ 40 by omega)
  clear h1 h2 h3 hc
  go_enter Tryd.func25, Tryd.ntmps25
  go_wp2_with fail
  go_ret2
  exact ⟨rfl, rfl⟩
/-! ### number -/
theorem num_drop (s : ByteArray) (j : Nat) (h : j < s.size) : ((bl s).drop j).takeWhile num = if numB (byt s j) = true then (s.data.toList.drop j).head?.toList ++ ((bl s).drop (j + 1)).takeWhile num else [] := by
  obtain ⟨c, e1, e2⟩ := drop_byt s j h
  have e1' : s.data.toList.drop j = c :: (bl s).drop (j + 1) := e1
  rw [e1, e1', List.takeWhile_cons, e2]
  rfl
theorem num_len_yes (s : ByteArray) (j : Nat) (h : j < s.size) (hn : numB (byt s j) = true) : (((bl s).drop j).takeWhile num).length = 1 + (((bl s).drop (j + 1)).takeWhile num).length := by
  obtain ⟨c, e1, e2⟩ := drop_byt s j h
  rw [e1, List.takeWhile_cons, if_pos (by show numB c.toNat = true; rw [← e2]; exact hn)]
  simp; omega
theorem num_len_no (s : ByteArray) (j : Nat) (hn : j < s.size → numB (byt s j) = false) : (((bl s).drop j).takeWhile num).length = 0 := by
  by_cases h : j < s.size
  · obtain ⟨c, e1, e2⟩ := drop_byt s j h
    rw [e1, List.takeWhile_cons, if_neg (by show ¬ numB c.toNat = true; rw [← e2, hn h]; simp)]
    rfl
  · rw [List.drop_eq_nil_of_le (by rw [bl_len]; omega)]; rfl
theorem take_num (l : List UInt8) : l.take (l.takeWhile num).length = l.takeWhile num := by
  have h := List.takeWhile_prefix (l := l) num
  rw [List.prefix_iff_eq_take] at h
  exact h.symm
def numT (s : ByteArray) (k : Nat) : List UInt8 := ((bl s).drop k).takeWhile num
def numE (s : ByteArray) (k : Nat) : Nat := k + (numT s k).length
theorem numE_le (s : ByteArray) (k : Nat) (h : k ≤ s.size) : numE s k ≤ s.size := by
  unfold numE numT
  have := (List.takeWhile_prefix (l := (bl s).drop k) num).length_le
  rw [List.length_drop, bl_len] at this
  omega
theorem num_extract (s : ByteArray) (k : Nat) : bl (s.extract k (numE s k)) = numT s k := by
  rw [bl_extract]
  unfold numE
  rw [Nat.add_sub_cancel_left]
  exact take_num _
theorem tok_built (n : Int) (k : Nat) : Tryd.prog.built 39 [(0, .int .i64 2), (1, .int .i64 n), (2, .int .i64 k)] = some #[.int .i64 2, .int .i64 n, .int .i64 k, .string ⟨#[]⟩] := by with_unfolding_all kernel_rfl
def isS : Option Int → Bool | some _ => true | none => false
def NumPost (s : ByteArray) (k : Nat) (w : World) (e : Ending) (w' : World) : Prop :=
  e = .returned (.tuple #[.agg #[.int .i64 2, .int .i64 (pv (parseF (numT s k))), .int .i64 k, .string ⟨#[]⟩], .int .i64 (numE s k), .bool (isS (parseF (numT s k)))]) ∧ Below w.heap.size w w'
set_option maxRecDepth 100000 in
theorem number_any (s : ByteArray) (k : Nat) (hk : k ≤ s.size) (hs : s.size ≤ 1000000) (w : World) : Calls Tryd.prog 28 #[.string s, .int .i64 k] w (NumPost s k w) := by
  have bel0 := (Below.refl w.heap.size w).alloc (Nat.le_refl _) (.cells #[.int .i64 0, .int .i64 0, .int .i64 0, .string ⟨#[]⟩] 39)
  have hb0 := Blk.new w 39 #[.int .i64 0, .int .i64 0, .int .i64 0, .string ⟨#[]⟩]
  have hE := numE_le s k hk
  go_enter Tryd.func28, Tryd.ntmps28
  go_wp2_with fail
  go_loopw [7] (fun s7 wr => ∃ j : Nat, k ≤ j ∧ j ≤ s.size ∧ s7 = .int .i64 j ∧ j + (((bl s).drop j).takeWhile num).length = numE s k ∧ w.alloc (.cells #[.int .i64 0, .int .i64 0, .int .i64 0, .string ⟨#[]⟩] 39) = wr)
    (fun s7 _ => s.size - (intOf s7).toNat)
  case atStart => exact ⟨k, Nat.le_refl _, hk, rfl, rfl, rfl⟩
  case round =>
    obtain ⟨j, hkj, hj, rfl, ej, rfl⟩ := hrel
    have j0 : (0 : Int) ≤ (j : Int) := by omega
    by_cases hlt : j < s.size
    · have d1 : decide (j < s.size) = true := by simpa using hlt
      have KN := fun W => numeric_any (byt s j) W
      cases hn : numB (byt s j)
      · simp only [hn] at KN
        have ej' : j = numE s k := by rw [← ej, num_len_no s j (fun _ => hn)]; omega
        have KK := Lib.hid KN
        have EJ := Lib.hid ej'
        have KP := fparse_any (s.extract k j) (by rw [ByteArray.size_extract]; omega) (w.alloc (.cells #[.int .i64 0, .int .i64 0, .int .i64 0, .string ⟨#[]⟩] 39))
        rw [ej', num_extract, ← ej'] at KP
        have KP := Lib.hid KP
        clear ej' ej hn KN
        go_wp2_with fail
        refine (KK.out _).mono ?_
        rintro e w' ⟨rfl, rfl⟩
        go_wp2_with fail
        refine KP.out.mono ?_
        rintro e w' ⟨rfl, rfl⟩
        obtain ⟨r, hp⟩ : ∃ r, parseF (numT s k) = r := ⟨_, rfl⟩
        cases r with
        | none =>
          rw [hp]
          have HP := Lib.hid hp
          clear hp
          simp only [pe, pv]
          go_wp2_with fail
          refine bodyPost_ret (v := .tuple #[.agg #[.int .i64 2, .int .i64 0, .int .i64 k, .string ⟨#[]⟩], .int .i64 j, .bool false]) (by simp [results, Tryd.results28, go_sem]) rfl ?_
          refine ⟨?_, ?_⟩
          · rw [HP.out, ← EJ.out]; rfl
          · exact (Below.refl _ _).alloc (Nat.le_refl _) _
        | some v =>
          rw [hp]
          have HP := Lib.hid hp
          clear hp
          simp only [pe, pv]
          go_wp2_with fail
          refine bodyPost_ret (v := .tuple #[.agg #[.int .i64 2, .int .i64 v, .int .i64 k, .string ⟨#[]⟩], .int .i64 j, .bool true]) (by simp [results, Tryd.results28, go_sem]) rfl ?_
          refine ⟨?_, ?_⟩
          · rw [HP.out, ← EJ.out]; rfl
          · exact (Below.refl _ _).alloc (Nat.le_refl _) _
      · simp only [hn] at KN
        have KK := Lib.hid KN
        rw [num_len_yes s j hlt hn] at ej
        have EJ := Lib.hid ej
        clear ej hn KN
        go_wp2_with fail
        refine (KK.out _).mono ?_
        rintro e w' ⟨rfl, rfl⟩
        go_wp2_with fail
        go_roundw
        case rel => exact ⟨j + 1, by omega, by omega, by go_num, by rw [← EJ.out]; omega, trivial⟩
        case measure => simp [intOf]; omega
    · have d1 : decide (j < s.size) = false := by simpa using hlt
      have ej' : j = numE s k := by rw [← ej, num_len_no s j (fun h => absurd h hlt)]; omega
      have EJ := Lib.hid ej'
      have KP := fparse_any (s.extract k j) (by rw [ByteArray.size_extract]; omega) (w.alloc (.cells #[.int .i64 0, .int .i64 0, .int .i64 0, .string ⟨#[]⟩] 39))
      rw [ej', num_extract, ← ej'] at KP
      have KP := Lib.hid KP
      clear ej' ej
      go_wp2_with fail
      refine KP.out.mono ?_
      rintro e w' ⟨rfl, rfl⟩
      obtain ⟨r, hp⟩ : ∃ r, parseF (numT s k) = r := ⟨_, rfl⟩
      cases r with
      | none =>
        rw [hp]
        have HP := Lib.hid hp
        clear hp
        simp only [pe, pv]
        go_wp2_with fail
        refine bodyPost_ret (v := .tuple #[.agg #[.int .i64 2, .int .i64 0, .int .i64 k, .string ⟨#[]⟩], .int .i64 j, .bool false]) (by simp [results, Tryd.results28, go_sem]) rfl ?_
        refine ⟨?_, ?_⟩
        · rw [HP.out, ← EJ.out]; rfl
        · exact (Below.refl _ _).alloc (Nat.le_refl _) _
      | some v =>
        rw [hp]
        have HP := Lib.hid hp
        clear hp
        simp only [pe, pv]
        go_wp2_with fail
        refine bodyPost_ret (v := .tuple #[.agg #[.int .i64 2, .int .i64 v, .int .i64 k, .string ⟨#[]⟩], .int .i64 j, .bool true]) (by simp [results, Tryd.results28, go_sem]) rfl ?_
        refine ⟨?_, ?_⟩
        · rw [HP.out, ← EJ.out]; rfl
        · exact (Below.refl _ _).alloc (Nat.le_refl _) _
end Go.Proofs.YtiphekdahmiaeaaDoor
