/-
  cncref02.Digits, cncref16.Number; cncref17.bit, names, fields. No condition.
  cncref17.fields: the numbers of an item. Any item.
-/
import Derived.Test.YtefdjdipbnnoaaaGreatDoorEnv17
import Derived.Test.YtefdjdipbnnoaaaGreatDoorStageF17
import Derived.Test.YtefdjdipbnnoaaaGreatDoorHeldL
import Derived.Lib.ItoaNum
import Derived.Test.YtefdjdipbnnoaaaGreatDoorNumsG17
namespace Go.Proofs.YtefdjdipbnnoaaaGreatDoor
open Go Go.RowKit
set_option linter.unusedVariables false

theorem dig10 (r : Nat) (h : r < 10) : (⟨#[48, 49, 50, 51, 52, 53, 54, 55, 56, 57]⟩ : ByteArray).extract r (r + 1) = mkB [UInt8.ofNat (48 + r)] := by
  match r, h with
  | 0, _ => rfl
  | 1, _ => rfl
  | 2, _ => rfl
  | 3, _ => rfl
  | 4, _ => rfl
  | 5, _ => rfl
  | 6, _ => rfl
  | 7, _ => rfl
  | 8, _ => rfl
  | 9, _ => rfl
  | n + 10, h => exact absurd h (by omega)
def dgB (k : Nat) : UInt8 := UInt8.ofNat (48 + k % 10)
theorem dig_at (k : Nat) : (⟨#[48, 49, 50, 51, 52, 53, 54, 55, 56, 57]⟩ : ByteArray).extract (k % 10) (k % 10 + 1) = mkB [dgB k] := dig10 (k % 10) (by omega)
theorem decD_one {k : Nat} (h : k < 10) : Lib.decDigits k = [dgB k] := by rw [Lib.decDigits_one h]; unfold dgB; rw [Nat.mod_eq_of_lt h]
theorem decD_more {k : Nat} (h : ¬ k < 10) : Lib.decDigits k = Lib.decDigits (k / 10) ++ [dgB k] := by rw [Lib.decDigits, dif_neg h]; rfl
theorem decD_most {m : Nat} (h : m < 10000000000) : (Lib.decDigits m).length ≤ 11 := by
  have := itoa_most (z := (m : Int)) (k := 9) (by have : (10 : Nat) ^ (9 + 1) = 10000000000 := by decide
                                                  omega)
  unfold Lib.itoa at this
  rw [if_neg (by omega), show (m : Int).toNat = m by omega] at this
  exact this
set_option maxRecDepth 100000 in
theorem digits_any (m : Nat) (w : World) (h : m < 10000000000) : Calls Tryz.prog 73 #[.int .i64 m] w fun e w' => e = .returned (.string (mkB (Lib.decDigits m))) ∧ Below w.heap.size w w' := by
  go_enter Tryz.func73, Tryz.ntmps73
  go_wp2_with fail
  go_loopw [0, 3] (fun s0 s3 wr => ∃ (k : Nat) (S : ByteArray), s0 = .int .i64 k ∧ s3 = .string S ∧ k ≤ m ∧ Lib.decDigits k ++ bl S = Lib.decDigits m ∧ w = wr)
    (fun s0 _ _ => (intOf s0).toNat)
  case atStart => exact ⟨m, ⟨#[]⟩, rfl, rfl, Nat.le_refl _, by simp [bl], rfl⟩
  case round =>
    obtain ⟨k, S, rfl, rfl, hk, hS, rfl⟩ := hrel
    have hlen : S.size ≤ 15 := by
      have h1 := congrArg List.length hS
      rw [List.length_append, bl_len] at h1
      have h2 := decD_most h
      omega
    have i0 : (0 : Int) ≤ (k : Int) := by omega
    by_cases h9 : 9 < k
    · have d1 : decide (9 < k) = true := by simpa using h9
      have hD : Lib.decDigits (k / 10) ++ bl (mkB [dgB k] ++ S) = Lib.decDigits m := by
        rw [bl_append, bl_mkB, ← hS, ← List.append_assoc, ← decD_more (by omega)]
      have HD := Lib.hid hD
      clear hD hS
      go_wp2_with fail
      go_roundw
      case rel => exact ⟨k / 10, _, by go_num, rfl, by omega, by rw [dig_at]; exact HD.out, trivial⟩
      case measure => simp only [intOf]; omega
    · have d1 : decide (9 < k) = false := by simpa using h9
      have hD : mkB [dgB k] ++ S = mkB (Lib.decDigits m) := by
        rw [← hS, decD_one (by omega), ← mkB_bl (mkB [dgB k] ++ S), bl_append, bl_mkB]
      have e10 : k % 10 = k := Nat.mod_eq_of_lt (by omega)
      have hx := dig_at k
      rw [e10] at hx
      have HX := Lib.hid (hx ▸ hD : (⟨#[48, 49, 50, 51, 52, 53, 54, 55, 56, 57]⟩ : ByteArray).extract k (k + 1) ++ S = mkB (Lib.decDigits m))
      clear hx e10 hD hS
      go_wp2_with fail
      go_ret
      exact ⟨by rw [HX.out]; rfl, Below.refl _ _⟩
theorem rnum_any (z : Int) (h : z.natAbs < 10000000000) (w : World) : Calls Tryz.prog 36 #[.int .i64 z] w fun e w' => e = .returned (.string (mkB (Lib.itoa z))) ∧ Below w.heap.size w w' := by
  by_cases h0 : z < 0
  · obtain ⟨m, hm⟩ : ∃ m : Nat, (m : Int) = - z := ⟨z.natAbs, by omega⟩
    have d0 : decide (z < 0) = true := decide_eq_true h0
    have KD := Lib.hid (digits_any m w (by omega))
    have R : Lib.itoa z = 45 :: Lib.decDigits m := by unfold Lib.itoa; rw [if_pos h0, show z.natAbs = m by omega]
    have hl : (mkB (Lib.decDigits m)).size ≤ 20 := by rw [mkB_size]; have := decD_most (m := m) (by omega); omega
    have g1 : ¬ (⟨#[45]⟩ : ByteArray).size + (mkB (Lib.decDigits m)).size > 9223372036854775807 := by
      rw [show (⟨#[45]⟩ : ByteArray).size = 1 from rfl]; omega
    have hw : IntKind.i64.wrap (m : Int) = m := by rw [IntKind.wrap_i64]; omega
    have R := Lib.hid R
    obtain rfl : z = - (m : Int) := by omega
    clear hm
    go_enter Tryz.func36, Tryz.ntmps36
    go_wp2_with fail
    refine KD.out.mono ?_
    rintro e w1 ⟨rfl, b1⟩
    go_wp2_with fail
    go_ret
    exact ⟨by rw [R.out]; rfl, b1⟩
  · obtain ⟨m, rfl⟩ := Int.eq_ofNat_of_zero_le (show 0 ≤ z by omega)
    have R : Lib.itoa (m : Int) = Lib.decDigits m := by unfold Lib.itoa; rw [if_neg h0, show (m : Int).toNat = m by omega]
    have d0 : decide ((m : Int) < 0) = false := decide_eq_false h0
    have KD := Lib.hid (digits_any m w (by omega))
    have R := Lib.hid R
    go_enter Tryz.func36, Tryz.ntmps36
    go_wp2_with fail
    refine KD.out.mono ?_
    rintro e w1 ⟨rfl, b1⟩
    go_wp2_with fail
    go_ret
    exact ⟨by rw [R.out]; rfl, b1⟩
theorem bit_any (b : Bool) (w : World) : Calls Tryz.prog 72 #[.bool b] w fun e w' => e = .returned (.int .i64 (b2i b)) ∧ w = w' := by
  cases b
  all_goals
    go_enter Tryz.func72, Tryz.ntmps72
    go_wp2_with fail
    go_ret
    exact ⟨rfl, rfl⟩
set_option maxRecDepth 100000 in
theorem names_any (w : World) : Calls Tryz.prog 34 #[] w fun e w' => e = .returned (.slice (some ⟨w.heap.size, 0, none⟩) 15 15) ∧ Blk w' w.heap.size 9 namesC ∧ Below w.heap.size w w' := by
  go_enter Tryz.func34, Tryz.ntmps34
  go_wp2_with fail
  go_ret
  exact ⟨rfl, Blk.new w _ _, (Below.refl _ _).alloc (Nat.le_refl _) _⟩
end Go.Proofs.YtefdjdipbnnoaaaGreatDoor

namespace Go.Proofs.YtefdjdipbnnoaaaGreatDoor
open Go Go.RowKit
set_option linter.unusedVariables false

/-- The cells of an item's numbers. -/
def numsA (i : It) : Array Value := #[.int .i64 i.block, .int .i64 i.fx, .int .i64 i.fy, .int .i64 i.fz, .int .i64 i.tx, .int .i64 i.ty, .int .i64 i.tz, .int .i64 i.plane, .int .i64 i.cx, .int .i64 i.cy, .int .i64 i.cz, .int .i64 i.dir, .int .i64 (b2i i.full), .int .i64 i.feed, .int .i64 (b2i i.perRev), .int .i64 i.side, .int .i64 i.radius, .int .i64 i.blend, .int .i64 i.n, .int .i64 i.speed, .int .i64 (b2i i.on)]
theorem numsA_eq (i : It) : numsA i = ((numsI i).map fun n => Value.int .i64 n).toArray := rfl
theorem infoInt : (Tryz.prog.info? 3).map (fun i => (i.zero, i.size, i.bytes)) = some (some (.int .i64 0), 1, 8) := by kernel_rfl
theorem nums_fill (i : It) : Instr.fill (fun k => some (k * 1, 1)) ((Array.range (21 * 1)).map ((Value.int .i64 0).cells[· % (Value.int .i64 0).cells.size]!)) [(0, .int .i64 i.block), (1, .int .i64 i.fx), (2, .int .i64 i.fy), (3, .int .i64 i.fz), (4, .int .i64 i.tx), (5, .int .i64 i.ty), (6, .int .i64 i.tz), (7, .int .i64 i.plane), (8, .int .i64 i.cx), (9, .int .i64 i.cy), (10, .int .i64 i.cz), (11, .int .i64 i.dir), (12, .int .i64 (b2i i.full)), (13, .int .i64 i.feed), (14, .int .i64 (b2i i.perRev)), (15, .int .i64 i.side), (16, .int .i64 i.radius), (17, .int .i64 i.blend), (18, .int .i64 i.n), (19, .int .i64 i.speed), (20, .int .i64 (b2i i.on))] = some (numsA i) := by with_unfolding_all kernel_rfl
structure NS (w : World) (i : It) (W : World) : Prop where
  blk : ItAt W w.heap.size i
  bel : Below w.heap.size w W
set_option maxRecDepth 100000 in
set_option maxHeartbeats 4000000 in
theorem fields_any (i : It) (w : World) : Calls Tryz.prog 35 #[.agg (itA i)] w fun e w' => ∃ g, e = .returned (.slice (some ⟨g, 0, none⟩) 21 21) ∧ Blk w' g 3 (numsA i) ∧ Below w.heap.size w w' := by
  have KB := Lib.hid (fun b W => bit_any b W)
  have hS : NS w i (w.alloc (.cells (itA i) 25)).drew := ⟨(ItAt.new w i).drew, ((Below.refl _ _).alloc (Nat.le_refl _) _).drew⟩
  have HS := Lib.hid hS
  go_enter Tryz.func35, Tryz.ntmps35
  clear hS
  go_upto_region 1 with fail
  have hS0 := HS.out
  refine region_L (NS w i) [] (by kernel_rfl) ?_
  refine take_P 0 (v := .pointer (some ⟨w.heap.size, 1, none⟩)) rfl (by kernel_rfl) (by kernel_rfl) (by kernel_rfl) (fun _ _ _ h => h) rfl (fun W' => by go_simp) ?_
  refine take_L 1 (v := .int .i64 i.block) rfl (by kernel_rfl) (by kernel_rfl) (by kernel_rfl) (by kernel_rfl) (fun _ _ _ h => h) rfl (fun W' hW' => by have z := hW'.blk.c1; go_simp) hS0 ?_
  refine take_P 2 (v := .pointer (some ⟨w.heap.size, 2, none⟩)) rfl (by kernel_rfl) (by kernel_rfl) (by kernel_rfl) (fun _ _ _ h => h) rfl (fun W' => by go_simp) ?_
  refine take_P 3 (v := .pointer (some ⟨w.heap.size, 2, none⟩)) rfl (by kernel_rfl) (by kernel_rfl) (by kernel_rfl) (fun _ _ _ h => h) rfl (fun W' => by go_simp) ?_
  refine take_L 4 (v := .int .i64 i.fx) rfl (by kernel_rfl) (by kernel_rfl) (by kernel_rfl) (by kernel_rfl) (fun _ _ _ h => h) rfl (fun W' hW' => by have z := hW'.blk.c2; go_simp) hS0 ?_
  refine take_P 5 (v := .pointer (some ⟨w.heap.size, 2, none⟩)) rfl (by kernel_rfl) (by kernel_rfl) (by kernel_rfl) (fun _ _ _ h => h) rfl (fun W' => by go_simp) ?_
  refine take_P 6 (v := .pointer (some ⟨w.heap.size, 3, none⟩)) rfl (by kernel_rfl) (by kernel_rfl) (by kernel_rfl) (fun _ _ _ h => h) rfl (fun W' => by go_simp) ?_
  refine take_L 7 (v := .int .i64 i.fy) rfl (by kernel_rfl) (by kernel_rfl) (by kernel_rfl) (by kernel_rfl) (fun _ _ _ h => h) rfl (fun W' hW' => by have z := hW'.blk.c3; go_simp) hS0 ?_
  refine take_P 8 (v := .pointer (some ⟨w.heap.size, 2, none⟩)) rfl (by kernel_rfl) (by kernel_rfl) (by kernel_rfl) (fun _ _ _ h => h) rfl (fun W' => by go_simp) ?_
  refine take_P 9 (v := .pointer (some ⟨w.heap.size, 4, none⟩)) rfl (by kernel_rfl) (by kernel_rfl) (by kernel_rfl) (fun _ _ _ h => h) rfl (fun W' => by go_simp) ?_
  refine take_L 10 (v := .int .i64 i.fz) rfl (by kernel_rfl) (by kernel_rfl) (by kernel_rfl) (by kernel_rfl) (fun _ _ _ h => h) rfl (fun W' hW' => by have z := hW'.blk.c4; go_simp) hS0 ?_
  refine take_P 11 (v := .pointer (some ⟨w.heap.size, 5, none⟩)) rfl (by kernel_rfl) (by kernel_rfl) (by kernel_rfl) (fun _ _ _ h => h) rfl (fun W' => by go_simp) ?_
  refine take_P 12 (v := .pointer (some ⟨w.heap.size, 5, none⟩)) rfl (by kernel_rfl) (by kernel_rfl) (by kernel_rfl) (fun _ _ _ h => h) rfl (fun W' => by go_simp) ?_
  refine take_L 13 (v := .int .i64 i.tx) rfl (by kernel_rfl) (by kernel_rfl) (by kernel_rfl) (by kernel_rfl) (fun _ _ _ h => h) rfl (fun W' hW' => by have z := hW'.blk.c5; go_simp) hS0 ?_
  refine take_P 14 (v := .pointer (some ⟨w.heap.size, 5, none⟩)) rfl (by kernel_rfl) (by kernel_rfl) (by kernel_rfl) (fun _ _ _ h => h) rfl (fun W' => by go_simp) ?_
  refine take_P 15 (v := .pointer (some ⟨w.heap.size, 6, none⟩)) rfl (by kernel_rfl) (by kernel_rfl) (by kernel_rfl) (fun _ _ _ h => h) rfl (fun W' => by go_simp) ?_
  refine take_L 16 (v := .int .i64 i.ty) rfl (by kernel_rfl) (by kernel_rfl) (by kernel_rfl) (by kernel_rfl) (fun _ _ _ h => h) rfl (fun W' hW' => by have z := hW'.blk.c6; go_simp) hS0 ?_
  refine take_P 17 (v := .pointer (some ⟨w.heap.size, 5, none⟩)) rfl (by kernel_rfl) (by kernel_rfl) (by kernel_rfl) (fun _ _ _ h => h) rfl (fun W' => by go_simp) ?_
  refine take_P 18 (v := .pointer (some ⟨w.heap.size, 7, none⟩)) rfl (by kernel_rfl) (by kernel_rfl) (by kernel_rfl) (fun _ _ _ h => h) rfl (fun W' => by go_simp) ?_
  refine take_L 19 (v := .int .i64 i.tz) rfl (by kernel_rfl) (by kernel_rfl) (by kernel_rfl) (by kernel_rfl) (fun _ _ _ h => h) rfl (fun W' hW' => by have z := hW'.blk.c7; go_simp) hS0 ?_
  refine take_P 20 (v := .pointer (some ⟨w.heap.size, 8, none⟩)) rfl (by kernel_rfl) (by kernel_rfl) (by kernel_rfl) (fun _ _ _ h => h) rfl (fun W' => by go_simp) ?_
  refine take_L 21 (v := .int .i64 i.plane) rfl (by kernel_rfl) (by kernel_rfl) (by kernel_rfl) (by kernel_rfl) (fun _ _ _ h => h) rfl (fun W' hW' => by have z := hW'.blk.c8; go_simp) hS0 ?_
  refine take_P 22 (v := .pointer (some ⟨w.heap.size, 9, none⟩)) rfl (by kernel_rfl) (by kernel_rfl) (by kernel_rfl) (fun _ _ _ h => h) rfl (fun W' => by go_simp) ?_
  refine take_P 23 (v := .pointer (some ⟨w.heap.size, 9, none⟩)) rfl (by kernel_rfl) (by kernel_rfl) (by kernel_rfl) (fun _ _ _ h => h) rfl (fun W' => by go_simp) ?_
  refine take_L 24 (v := .int .i64 i.cx) rfl (by kernel_rfl) (by kernel_rfl) (by kernel_rfl) (by kernel_rfl) (fun _ _ _ h => h) rfl (fun W' hW' => by have z := hW'.blk.c9; go_simp) hS0 ?_
  refine take_P 25 (v := .pointer (some ⟨w.heap.size, 9, none⟩)) rfl (by kernel_rfl) (by kernel_rfl) (by kernel_rfl) (fun _ _ _ h => h) rfl (fun W' => by go_simp) ?_
  refine take_P 26 (v := .pointer (some ⟨w.heap.size, 10, none⟩)) rfl (by kernel_rfl) (by kernel_rfl) (by kernel_rfl) (fun _ _ _ h => h) rfl (fun W' => by go_simp) ?_
  refine take_L 27 (v := .int .i64 i.cy) rfl (by kernel_rfl) (by kernel_rfl) (by kernel_rfl) (by kernel_rfl) (fun _ _ _ h => h) rfl (fun W' hW' => by have z := hW'.blk.c10; go_simp) hS0 ?_
  refine take_P 28 (v := .pointer (some ⟨w.heap.size, 9, none⟩)) rfl (by kernel_rfl) (by kernel_rfl) (by kernel_rfl) (fun _ _ _ h => h) rfl (fun W' => by go_simp) ?_
  refine take_P 29 (v := .pointer (some ⟨w.heap.size, 11, none⟩)) rfl (by kernel_rfl) (by kernel_rfl) (by kernel_rfl) (fun _ _ _ h => h) rfl (fun W' => by go_simp) ?_
  refine take_L 30 (v := .int .i64 i.cz) rfl (by kernel_rfl) (by kernel_rfl) (by kernel_rfl) (by kernel_rfl) (fun _ _ _ h => h) rfl (fun W' hW' => by have z := hW'.blk.c11; go_simp) hS0 ?_
  refine take_P 31 (v := .pointer (some ⟨w.heap.size, 12, none⟩)) rfl (by kernel_rfl) (by kernel_rfl) (by kernel_rfl) (fun _ _ _ h => h) rfl (fun W' => by go_simp) ?_
  refine take_L 32 (v := .int .i64 i.dir) rfl (by kernel_rfl) (by kernel_rfl) (by kernel_rfl) (by kernel_rfl) (fun _ _ _ h => h) rfl (fun W' hW' => by have z := hW'.blk.c12; go_simp) hS0 ?_
  refine take_P 33 (v := .pointer (some ⟨w.heap.size, 13, none⟩)) rfl (by kernel_rfl) (by kernel_rfl) (by kernel_rfl) (fun _ _ _ h => h) rfl (fun W' => by go_simp) ?_
  refine take_L 34 (v := .bool i.full) rfl (by kernel_rfl) (by kernel_rfl) (by kernel_rfl) (by kernel_rfl) (fun _ _ _ h => h) rfl (fun W' hW' => by have z := hW'.blk.c13; go_simp) hS0 ?_
  refine take_P 36 (v := .pointer (some ⟨w.heap.size, 14, none⟩)) rfl (by kernel_rfl) (by kernel_rfl) (by kernel_rfl) (fun _ _ _ h => h) rfl (fun W' => by go_simp) ?_
  refine take_L 37 (v := .int .i64 i.feed) rfl (by kernel_rfl) (by kernel_rfl) (by kernel_rfl) (by kernel_rfl) (fun _ _ _ h => h) rfl (fun W' hW' => by have z := hW'.blk.c14; go_simp) hS0 ?_
  refine take_P 38 (v := .pointer (some ⟨w.heap.size, 15, none⟩)) rfl (by kernel_rfl) (by kernel_rfl) (by kernel_rfl) (fun _ _ _ h => h) rfl (fun W' => by go_simp) ?_
  refine take_L 39 (v := .bool i.perRev) rfl (by kernel_rfl) (by kernel_rfl) (by kernel_rfl) (by kernel_rfl) (fun _ _ _ h => h) rfl (fun W' hW' => by have z := hW'.blk.c15; go_simp) hS0 ?_
  refine take_P 41 (v := .pointer (some ⟨w.heap.size, 16, none⟩)) rfl (by kernel_rfl) (by kernel_rfl) (by kernel_rfl) (fun _ _ _ h => h) rfl (fun W' => by go_simp) ?_
  refine take_L 42 (v := .int .i64 i.side) rfl (by kernel_rfl) (by kernel_rfl) (by kernel_rfl) (by kernel_rfl) (fun _ _ _ h => h) rfl (fun W' hW' => by have z := hW'.blk.c16; go_simp) hS0 ?_
  refine take_P 43 (v := .pointer (some ⟨w.heap.size, 17, none⟩)) rfl (by kernel_rfl) (by kernel_rfl) (by kernel_rfl) (fun _ _ _ h => h) rfl (fun W' => by go_simp) ?_
  refine take_L 44 (v := .int .i64 i.radius) rfl (by kernel_rfl) (by kernel_rfl) (by kernel_rfl) (by kernel_rfl) (fun _ _ _ h => h) rfl (fun W' hW' => by have z := hW'.blk.c17; go_simp) hS0 ?_
  refine take_P 45 (v := .pointer (some ⟨w.heap.size, 18, none⟩)) rfl (by kernel_rfl) (by kernel_rfl) (by kernel_rfl) (fun _ _ _ h => h) rfl (fun W' => by go_simp) ?_
  refine take_L 46 (v := .int .i64 i.blend) rfl (by kernel_rfl) (by kernel_rfl) (by kernel_rfl) (by kernel_rfl) (fun _ _ _ h => h) rfl (fun W' hW' => by have z := hW'.blk.c18; go_simp) hS0 ?_
  refine take_P 47 (v := .pointer (some ⟨w.heap.size, 19, none⟩)) rfl (by kernel_rfl) (by kernel_rfl) (by kernel_rfl) (fun _ _ _ h => h) rfl (fun W' => by go_simp) ?_
  refine take_L 48 (v := .int .i64 i.n) rfl (by kernel_rfl) (by kernel_rfl) (by kernel_rfl) (by kernel_rfl) (fun _ _ _ h => h) rfl (fun W' hW' => by have z := hW'.blk.c19; go_simp) hS0 ?_
  refine take_P 49 (v := .pointer (some ⟨w.heap.size, 20, none⟩)) rfl (by kernel_rfl) (by kernel_rfl) (by kernel_rfl) (fun _ _ _ h => h) rfl (fun W' => by go_simp) ?_
  refine take_L 50 (v := .int .i64 i.speed) rfl (by kernel_rfl) (by kernel_rfl) (by kernel_rfl) (by kernel_rfl) (fun _ _ _ h => h) rfl (fun W' hW' => by have z := hW'.blk.c20; go_simp) hS0 ?_
  refine take_P 51 (v := .pointer (some ⟨w.heap.size, 21, none⟩)) rfl (by kernel_rfl) (by kernel_rfl) (by kernel_rfl) (fun _ _ _ h => h) rfl (fun W' => by go_simp) ?_
  refine take_L 52 (v := .bool i.on) rfl (by kernel_rfl) (by kernel_rfl) (by kernel_rfl) (by kernel_rfl) (fun _ _ _ h => h) rfl (fun W' hW' => by have z := hW'.blk.c21; go_simp) hS0 ?_
  refine one_L 35 (by kernel_rfl) rfl rfl fun K35 hK35 => ?_
  have HK35 := Lib.hid hK35
  clear hK35
  go_simp
  refine (KB.out i.full _).mono ?_
  rintro e W35 ⟨rfl, rfl⟩
  refine HK35.out _ _ (fun _ _ => hS0) ?_
  refine one_L 40 (by kernel_rfl) rfl rfl fun K40 hK40 => ?_
  have HK40 := Lib.hid hK40
  clear hK40
  go_simp
  refine (KB.out i.perRev _).mono ?_
  rintro e W40 ⟨rfl, rfl⟩
  refine HK40.out _ _ (fun _ _ => hS0) ?_
  refine one_L 53 (by kernel_rfl) rfl rfl fun K53 hK53 => ?_
  have HK53 := Lib.hid hK53
  clear hK53
  go_simp
  refine (KB.out i.on _).mono ?_
  rintro e W53 ⟨rfl, rfl⟩
  refine HK53.out _ _ (fun _ _ => hS0) ?_
  refine one_L 54 (by kernel_rfl) rfl rfl fun K54 hK54 => ?_
  have HK54 := Lib.hid hK54
  clear hK54
  obtain ⟨i0, hi, hz0, hz1, hz2⟩ := info_parts infoInt
  refine wo_buildSlice 26 3 21 _ (numsA i) i0 _ Tryz.underlying26 hi hz0 (by rw [hz1]; decide) (by rw [hz1]; decide) ?_ ?_
  · rw [hz1]
    refine Eq.trans (congrArg (Instr.fill _ _) ?_) (nums_fill i)
    kernel_rfl
  have B1 := Lib.hid hS0.bel
  have hS0 : NS w i _ := ⟨hS0.blk.alloc (.cells (numsA i) 3), hS0.bel.alloc (hS0.bel.size) _⟩
  refine HK54.out _ _ (fun _ _ => hS0) ?_
  refine one_L 55 (by kernel_rfl) rfl rfl fun K55 hK55 => ?_
  have HK55 := Lib.hid hK55
  clear hK55
  go_simp
  refine HK55.out _ _ (fun _ _ => ⟨((ItAt.new w i).alloc _).drew, (((Below.refl _ w).alloc (Nat.le_refl _) _).alloc (by simp) _).drew⟩) ?_
  refine done_L (by kernel_rfl) ?_ _
  clear HK35 HK40 HK53 HK54 HK55 hS0 HS
  go_simp
  go_wp2_with fail
  go_ret
  exact ⟨_, rfl, (blk_new1 w _ _ _).drew, (((Below.refl _ w).alloc (Nat.le_refl _) _).alloc (by simp) _).drew⟩
end Go.Proofs.YtefdjdipbnnoaaaGreatDoor
