/-
  cncref33.Decimal: a number in decimal. Any number of at most ten digits.
-/
import Derived.Test.YtkafmpgihhnhdaaDoorName33
import Derived.Test.YtkafmpgihhnhdaaDoorBldr33
import Derived.Lib.ItoaNum
namespace Go.Proofs.YtkafmpgihhnhdaaDoor
open Go Go.RowKit
set_option linter.unusedVariables false

theorem dec_conv (d : Int) (h0 : 0 ≤ d) (h1 : d ≤ 255) (W : World) : (convert 39 9 (.slice (some ⟨W.heap.size, 0, none⟩) 1 1)).run Tryd.prog (W.alloc (.cells #[.int .u8 d] 5)) = .ok (.string (mkB [UInt8.ofNat d.toNat])) (W.alloc (.cells #[.int .u8 d] 5)) := by
  refine run_convert_bytes_back (W.alloc (.cells #[.int .u8 d] 5)) 39 9 5 ⟨W.heap.size, 0, none⟩ 1 [UInt8.ofNat d.toNat] Tryd.underlying39 Tryd.underlying5 Tryd.underlying9 fun j hj => ?_
  obtain rfl : j = 0 := by simp at hj; omega
  rw [Addr.add_mid, Nat.zero_add, (Blk.new W 5 #[.int .u8 d]).cell]
  simp
  omega
theorem dec_convB (d : Int) (h0 : 0 ≤ d) (h1 : d ≤ 255) (W : World) (b : Nat) (hb : Blk W b 5 #[.int .u8 d]) : (convert 39 9 (.slice (some ⟨b, 0, none⟩) 1 1)).run Tryd.prog W = .ok (.string (mkB [UInt8.ofNat d.toNat])) W := by
  refine run_convert_bytes_back W 39 9 5 ⟨b, 0, none⟩ 1 [UInt8.ofNat d.toNat] Tryd.underlying39 Tryd.underlying5 Tryd.underlying9 fun j hj => ?_
  obtain rfl : j = 0 := by simp at hj; omega
  rw [Addr.add_mid, Nat.zero_add, hb.cell]
  simp
  omega
theorem dec_more {m : Nat} (h : ¬ m < 10) : Lib.decDigits m = Lib.decDigits (m / 10) ++ [UInt8.ofNat (48 + m % 10)] := by rw [Lib.decDigits, dif_neg h]
/-- The operations of the last region: what each of them yields. -/
def decG (m q : Nat) (r : Int) (i : Nat) (v : Value) (w : World) : Prop :=
  match i with
  | 0 => v = .int .i64 m
  | 1 => v = .int .i64 q
  | 2 => v = .string (mkB (Lib.decDigits q))
  | 3 => v = .int .i64 m
  | 4 => v = .int .i64 r
  | 5 => v = .int .i64 (48 + r)
  | 6 => v = .int .u8 (48 + r)
  | 7 => ∃ b, v = .slice (some ⟨b, 0, none⟩) 1 1 ∧ Blk w b 5 #[.int .u8 (48 + r)]
  | 8 => v = .string (mkB [UInt8.ofNat (48 + r).toNat])
  | 9 => v = .string (mkB (Lib.decDigits m))
  | _ => True
set_option maxRecDepth 100000 in
set_option maxHeartbeats 2000000 in
theorem dec_nat (m : Nat) : m < 10000000000 → ∀ w : World, Calls Tryd.prog 28 #[.int .i64 m] w fun e w' => e = .returned (.string (mkB (Lib.decDigits m))) ∧ Below w.heap.size w w' := by
  induction m using Nat.strongRecOn with
  | _ m ih =>
  intro hm w
  by_cases h10 : m < 10
  · have d0 : decide ((m : Int) < 0) = false := decide_eq_false (by omega)
    have d1 : decide (m < 10) = true := decide_eq_true h10
    have d1' : decide ((m : Int) < 10) = true := decide_eq_true (by omega)
    have hw : IntKind.u8.wrap (48 + (m : Int)) = 48 + (m : Int) := by rw [IntKind.wrap_u8]; omega
    have hc := dec_conv (48 + m) (by omega) (by omega) w
    have R := Lib.decDigits_one h10
    rw [show (48 + (m : Int)).toNat = 48 + m by omega, ← R] at hc
    have BEL := Lib.hid ((Below.refl w.heap.size w).alloc (Nat.le_refl _) (.cells #[.int .u8 (48 + m)] 5))
    clear ih R
    go_enter Tryd.func28, Tryd.ntmps28
    go_wp2_with fail
    go_ret
    exact ⟨rfl, BEL.out⟩
  · have d0 : decide ((m : Int) < 0) = false := decide_eq_false (by omega)
    have d1 : decide (m < 10) = false := decide_eq_false h10
    have d1' : decide ((m : Int) < 10) = false := decide_eq_false (by omega)
    have R := Lib.hid (dec_more h10)
    obtain ⟨q, hq⟩ : ∃ q, m / 10 = q := ⟨_, rfl⟩
    obtain ⟨r, hr⟩ : ∃ r : Int, ((m % 10 : Nat) : Int) = r := ⟨_, rfl⟩
    have hq1 : Int.tdiv (m : Int) 10 = (q : Int) := by rw [Int.tdiv_eq_ediv_of_nonneg (by omega)]; omega
    have hr1 : Int.tmod (m : Int) 10 = r := by rw [Int.tmod_eq_emod_of_nonneg (by omega)]; omega
    have hrb : 0 ≤ r ∧ r ≤ 9 := by omega
    have hw : IntKind.u8.wrap (48 + r) = 48 + r := by rw [IntKind.wrap_u8]; omega
    have KD := Lib.hid (ih q (by omega) (by omega))
    have hlq : (Lib.decDigits q).length ≤ 20 := by
      have := itoa_most (z := (q : Int)) (k := 9) (by have : (10 : Nat) ^ (9 + 1) = 10000000000 := by decide
                                                      omega)
      unfold Lib.itoa at this
      rw [if_neg (by omega), show (q : Int).toNat = q by omega] at this
      omega
    rw [hq, show m % 10 = r.toNat by omega] at R
    have hqb : q < 10000000000 := by omega
    have HR1 := Lib.hid hr1
    have HQ1 := Lib.hid hq1
    clear ih hq hr
    go_enter Tryd.func28, Tryd.ntmps28
    go_wp2_with fail
    refine wp_region_tab 10 [(0, 16), (1, 17), (2, 18), (3, 19), (4, 20), (5, 21), (6, 22), (7, 23), (8, 24), (9, 25)]
      [[], [(0, 16)], [(1, 17)], [], [(3, 19)], [(4, 20)], [(5, 21)], [(6, 22)], [(7, 23)], [(2, 18), (8, 24)]] [(0, .int .i64 m)]
      (fun W => Below w.heap.size w W) (fun w w' => Below w.heap.size w w') (decG m q r)
      (by kernel_rfl) (by kernel_rfl) (by kernel_rfl) (by kernel_rfl) ?_ ?_ ?_ ?_ ?_
    · intro p hp
      simp only [List.mem_singleton] at hp
      subst hp
      rfl
    · intro i v w1 w2 hg hv
      unfold decG at hv ⊢
      split at hv
      all_goals first
        | exact hv
        | (obtain ⟨b, e, hb⟩ := hv; exact ⟨b, e, hb.below hg hb.lt⟩)
    · exact (Below.refl _ _).drew
    · simp only [EachOp]
      refine ⟨fun _ => ?_, fun _ => ?_, fun _ => ?_, fun _ => ?_, fun _ => ?_, fun _ => ?_, fun _ => ?_, fun _ => ?_, fun _ => ?_, fun _ => ?_, fun h => absurd rfl h, trivial⟩
      all_goals intro a1 w1 hJ hA hd; have hA0 := hA _ (List.mem_singleton.2 rfl); clear hA; simp only [List.getD_cons_zero, List.getD_cons_succ, List.mem_cons, List.not_mem_nil, or_false, forall_eq_or_imp, forall_eq] at hd; simp only at hA0
      · refine BigFrame.wp_move _ rfl ⟨_, rfl, Below.refl _ _, hJ, ?_⟩; show a1.tmps.getD 0 undef = _; rw [Array.getD_eq_getD_getElem?]; exact hA0
      · clear hA0
        have h1 : a1.tmps[16]?.getD undef = .int .i64 m := hd
        have hq1 := HQ1.out
        have hwq : IntKind.i64.wrap (q : Int) = q := (by rw [IntKind.wrap_i64]; omega)
        clear hd
        go_simp
        exact ⟨_, rfl, Below.refl _ _, rfl⟩
      · clear hA0
        have h1 : a1.tmps[17]?.getD undef = .int .i64 q := hd
        clear hd
        go_simp
        refine (KD.out w1).mono ?_
        rintro e w2 ⟨rfl, b2⟩
        exact ⟨_, rfl, b2, hJ.trans (b2.mono hJ.size), rfl⟩
      · refine BigFrame.wp_move _ rfl ⟨_, rfl, Below.refl _ _, hJ, ?_⟩; show a1.tmps.getD 0 undef = _; rw [Array.getD_eq_getD_getElem?]; exact hA0
      · clear hA0
        have h1 : a1.tmps[19]?.getD undef = .int .i64 m := hd
        have hr1 := HR1.out
        clear hd
        go_simp
        exact ⟨_, rfl, Below.refl _ _, rfl⟩
      · clear hA0
        have h1 : a1.tmps[20]?.getD undef = .int .i64 r := hd
        have hwq : IntKind.i64.wrap (48 + r) = 48 + r := (by rw [IntKind.wrap_i64]; omega)
        clear hd
        go_simp
        exact ⟨_, rfl, Below.refl _ _, rfl⟩
      · clear hA0
        have h1 : a1.tmps[21]?.getD undef = .int .i64 (48 + r) := hd
        clear hd
        go_simp
        exact ⟨_, rfl, Below.refl _ _, rfl⟩
      · clear hA0
        have h1 : a1.tmps[22]?.getD undef = .int .u8 (48 + r) := hd
        clear hd
        go_simp
        exact ⟨_, rfl, (Below.refl _ _).alloc (Nat.le_refl _) _, hJ.alloc hJ.size _, w1.heap.size, rfl, Blk.new _ _ _⟩
      · clear hA0
        obtain ⟨b, h1, hb⟩ := hd
        have hc := dec_convB (48 + r) (by omega) (by omega) w1 b hb
        go_simp
        exact ⟨_, rfl, Below.refl _ _, rfl⟩
      · clear hA0
        obtain ⟨h1, h2⟩ := hd
        have g1 : ¬ (mkB (Lib.decDigits q)).size + (mkB [UInt8.ofNat (48 + r).toNat]).size > 9223372036854775807 := by rw [mkB_size, mkB_size]; simp; omega
        have h1 : a1.tmps[18]?.getD undef = .string (mkB (Lib.decDigits q)) := h1
        have h2 : a1.tmps[24]?.getD undef = .string (mkB [UInt8.ofNat (48 + r).toNat]) := h2
        go_simp
        refine ⟨_, rfl, Below.refl _ _, ?_⟩
        show Value.string _ = .string (mkB (Lib.decDigits m))
        rw [R.out, show (48 + r).toNat = 48 + r.toNat by omega]
        congr 1
    · intro vs w1 hJ hG
      have h9 := hG (9, 25) (by simp)
      clear hG
      simp only [decG] at h9
      refine ⟨?_⟩
      simp only [AtOp, List.foldl_cons, List.foldl_nil]
      rw [h9]
      simp only [Act.put, List.setIfInBounds_toArray, List.set_cons_zero, List.set_cons_succ]
      go_simp
      go_wp2_with fail
      go_ret
      exact ⟨rfl, hJ⟩
theorem dec_any (z : Int) (h : z.natAbs < 10000000000) (w : World) : Calls Tryd.prog 28 #[.int .i64 z] w fun e w' => e = .returned (.string (mkB (Lib.itoa z))) ∧ Below w.heap.size w w' := by
  by_cases h0 : z < 0
  · obtain ⟨m, hm⟩ : ∃ m : Nat, (m : Int) = - z := ⟨z.natAbs, by omega⟩
    have d0 : decide (z < 0) = true := decide_eq_true h0
    have KD := Lib.hid (dec_nat m (by omega) w)
    have R : Lib.itoa z = 45 :: Lib.decDigits m := by unfold Lib.itoa; rw [if_pos h0, show z.natAbs = m by omega]
    have hl : (mkB (Lib.decDigits m)).size ≤ 20 := by
      rw [mkB_size]
      have := itoa_most (z := z) (k := 9) (by have : (10 : Nat) ^ (9 + 1) = 10000000000 := by decide
                                              omega)
      rw [R] at this
      simp at this
      omega
    have g1 : ¬ (⟨#[45]⟩ : ByteArray).size + (mkB (Lib.decDigits m)).size > 9223372036854775807 := by
      rw [show (⟨#[45]⟩ : ByteArray).size = 1 from rfl]; omega
    have hw : IntKind.i64.wrap (m : Int) = m := by rw [IntKind.wrap_i64]; omega
    have R := Lib.hid R
    obtain rfl : z = - (m : Int) := by omega
    clear hm
    go_enter Tryd.func28, Tryd.ntmps28
    go_wp2_with fail
    refine KD.out.mono ?_
    rintro e w1 ⟨rfl, b1⟩
    go_wp2_with fail
    go_ret
    exact ⟨by rw [R.out]; rfl, b1⟩
  · obtain ⟨m, rfl⟩ := Int.eq_ofNat_of_zero_le (show 0 ≤ z by omega)
    have R : Lib.itoa (m : Int) = Lib.decDigits m := by unfold Lib.itoa; rw [if_neg h0, show (m : Int).toNat = m by omega]
    rw [R]
    exact dec_nat m (by omega) w
end Go.Proofs.YtkafmpgihhnhdaaDoor
