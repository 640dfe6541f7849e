/-
  cncref05.Name and named: which names a string is or begins with. Any string.
-/
import Derived.Test.YtiphekdahmiaeaaDoorNames05
namespace Go.Proofs.YtiphekdahmiaeaaDoor
open Go Go.RowKit
set_option linter.unusedVariables false

theorem rname_any (s : ByteArray) (w : World) : Calls Tryd.prog 19 #[.string s] w fun e w' => e = .returned (.bool (isName (bl s))) ∧ Below w.heap.size w w' := by
  have bel0 := (Below.refl w.heap.size w).alloc (Nat.le_refl _) (.cells namesC 9)
  have hb := Blk.new w 9 namesC
  go_enter Tryd.func19, Tryd.ntmps19
  go_wp2_with fail
  refine (names_any _).mono ?_
  rintro e w' ⟨rfl, rfl⟩
  refine on_told (fun w' => Below w.heap.size w w' ∧ Blk w' w.heap.size 9 namesC) ⟨bel0, hb⟩ ?_
  rintro w1 ⟨bel, hb1⟩
  clear bel0 hb
  go_wp2_with fail
  go_loopw [4] (fun s4 wr => ∃ i : Nat, i ≤ 24 ∧ s4 = .int .i64 i ∧ (∀ k, k < i → bl s ≠ bl (nmB k)) ∧ w1 = wr)
    (fun s4 _ => 24 - (intOf s4).toNat)
  case atStart => exact ⟨0, by omega, rfl, fun k h => by omega, rfl⟩
  case round =>
    obtain ⟨i, hi, rfl, hall, rfl⟩ := hrel
    have HA := Lib.hid hall
    clear hall
    by_cases hlt : i < 24
    · have d1 : decide (i < 24) = true := by simpa using hlt
      have i0 : (0 : Int) ≤ (i : Int) := by omega
      have i1 : (i : Int) < 24 := by omega
      have c0 := hb1.cell' i (namesC_at i hlt)
      by_cases h1 : bl s = bl (nmB i)
      · have d2 := eq_of h1.symm
        have E := Lib.hid (isName_yes h1 hlt)
        clear h1
        go_wp2_with fail
        go_ret
        exact ⟨by rw [E.out]; rfl, bel⟩
      · have d2 := neq_of (fun e => h1 e.symm)
        have HN := Lib.hid h1
        clear h1
        go_wp2_with fail
        go_roundw
        case rel => exact ⟨i + 1, by omega, by go_num, fun k hk => by
          by_cases e : k = i
          · subst e; exact HN.out
          · exact HA.out k (by omega), trivial⟩
        case measure => simp [intOf]; omega
    · obtain rfl : i = 24 := by omega
      have E := Lib.hid (isName_no HA.out (Nat.le_refl _))
      have d1 : decide (24 < 24) = false := rfl
      go_wp2_with fail
      go_ret
      exact ⟨by rw [E.out]; rfl, bel⟩

theorem prefix_at (s p : ByteArray) (a : Nat) (h : a + p.size ≤ s.size) : ((s.extract a (a + p.size)).toList == p.toList) = (bl p).isPrefixOf ((bl s).drop a) := by
  rw [toList_bl, toList_bl, bl_extract, show a + p.size - a = p.size by omega, Bool.eq_iff_iff, beq_iff_eq, List.isPrefixOf_iff_prefix, List.prefix_iff_eq_take, bl_len]
  exact eq_comm
theorem prefix_past (s p : ByteArray) (a : Nat) (ha : a ≤ s.size) (h : s.size < a + p.size) : (bl p).isPrefixOf ((bl s).drop a) = false := by
  rw [Bool.eq_false_iff, Ne, List.isPrefixOf_iff_prefix]
  intro hp
  have := hp.length_le
  rw [List.length_drop, bl_len, bl_len] at this
  omega
set_option maxRecDepth 100000 in
set_option maxHeartbeats 1000000 in
theorem named_any (s : ByteArray) (a : Nat) (hs : s.size ≤ 4611686018427387904) (ha : a ≤ s.size) (w : World) : Calls Tryd.prog 32 #[.string s, .int .i64 a] w fun e w' => e = .returned (.string (mkB (longest ((bl s).drop a)))) ∧ Below w.heap.size w w' := by
  have bel0 := (Below.refl w.heap.size w).alloc (Nat.le_refl _) (.cells namesC 9)
  have hb := Blk.new w 9 namesC
  go_enter Tryd.func32, Tryd.ntmps32
  go_wp2_with fail
  refine (names_any _).mono ?_
  rintro e w' ⟨rfl, rfl⟩
  refine on_told (fun w' => Below w.heap.size w w' ∧ Blk w' w.heap.size 9 namesC) ⟨bel0, hb⟩ ?_
  rintro w1 ⟨bel, hb1⟩
  clear bel0 hb
  go_wp2_with fail
  go_loopw [5, 7] (fun s5 s7 wr => ∃ (i m : Nat) (B : ByteArray), i ≤ 24 ∧ s7 = .int .i64 i ∧ s5 = .string B ∧ B.size ≤ 5 ∧ longG ((bl s).drop a) (namesL.drop i) (bl B) = longest ((bl s).drop a) ∧ w1.drewN m = wr)
    (fun _ s7 _ => 24 - (intOf s7).toNat)
  case atStart => exact ⟨0, 0, ⟨#[]⟩, by omega, rfl, rfl, by decide, rfl, rfl⟩
  case round =>
    obtain ⟨i, m, B, hi, rfl, rfl, hB, hl, rfl⟩ := hrel
    by_cases hlt : i < 24
    · have d1 : decide (i < 24) = true := by simpa using hlt
      have i0 : (0 : Int) ≤ (i : Int) := by omega
      have i1 : (i : Int) < 24 := by omega
      have c0 := hb1.cell' i (namesC_at i hlt)
      have hn := nmB_size i
      have a0 : (0 : Int) ≤ (a : Int) := by omega
      have a1 : (a : Int) ≤ (s.size : Int) := by omega
      have s1 : IntKind.i64.wrap ((s.size : Int) - a) = (s.size : Int) - a := by rw [IntKind.wrap_i64]; omega
      have s2 : IntKind.i64.wrap ((a : Int) + (nmB i).size) = (a : Int) + (nmB i).size := by rw [IntKind.wrap_i64]; omega
      rw [longG_drop hlt, bl_len] at hl
      generalize nmB i = nm at *
      by_cases h1 : a + nm.size ≤ s.size
      · have g1 : decide ((nm.size : Int) ≤ (s.size : Int) - a) = true := by simp; omega
        have a2 : (a : Int) ≤ (a : Int) + nm.size := by omega
        have a3 : (a : Int) + nm.size ≤ (s.size : Int) := by omega
        have a4 : ((a : Int) + nm.size).toNat = a + nm.size := by omega
        have hp := prefix_at s nm a h1
        cases hb : (bl nm).isPrefixOf ((bl s).drop a)
        · rw [hb] at hp
          rw [hb, if_neg (by simp)] at hl
          have HL := Lib.hid hl
          clear hl hb
          go_wp2_with fail
          go_quiet (fail)
          go_wp2_with fail
          go_roundw
          case rel => exact ⟨i + 1, _, B, by omega, by go_num, rfl, hB, HL.out, rfl⟩
          case measure => simp [intOf]; omega
        · rw [hb] at hp
          by_cases h2 : B.size < nm.size
          · have g2 : decide (B.size < nm.size) = true := by simpa using h2
            rw [hb, if_pos ⟨h2, rfl⟩] at hl
            have HL := Lib.hid hl
            clear hl hb
            go_wp2_with fail
            go_quiet (fail)
            go_wp2_with fail
            go_roundw
            case rel => exact ⟨i + 1, _, nm, by omega, by go_num, rfl, hn, HL.out, rfl⟩
            case measure => simp [intOf]; omega
          · have g2 : decide (B.size < nm.size) = false := by simpa using h2
            rw [if_neg (fun x => h2 x.1)] at hl
            have HL := Lib.hid hl
            clear hl hb
            go_wp2_with fail
            go_quiet (fail)
            go_wp2_with fail
            go_roundw
            case rel => exact ⟨i + 1, _, B, by omega, by go_num, rfl, hB, HL.out, rfl⟩
            case measure => simp [intOf]; omega
      · have g1 : decide ((nm.size : Int) ≤ (s.size : Int) - a) = false := by simp; omega
        rw [prefix_past s nm a ha (by omega), if_neg (by simp)] at hl
        have HL := Lib.hid hl
        clear hl
        go_wp2_with fail
        go_quiet (fail)
        go_wp2_with fail
        go_roundw
        case rel => exact ⟨i + 1, _, B, by omega, by go_num, rfl, hB, HL.out, rfl⟩
        case measure => simp [intOf]; omega
    · obtain rfl : i = 24 := by omega
      have E := Lib.hid (show B = mkB (longest ((bl s).drop a)) by rw [← hl]; exact (mkB_bl B).symm)
      have d1 : decide (24 < 24) = false := rfl
      clear hl
      go_wp2_with fail
      go_ret
      exact ⟨by rw [← E.out]; rfl, below_drewN bel _⟩
end Go.Proofs.YtiphekdahmiaeaaDoor
