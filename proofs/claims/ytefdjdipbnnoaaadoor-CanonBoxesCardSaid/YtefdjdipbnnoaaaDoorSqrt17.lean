/-
  wide.floorRoot, root, signed, Sqrt (rounded up): any number below 2^62. math/bits.Sub64 by the shelf.
-/
import Derived.Test.YtefdjdipbnnoaaaDoorRootP17
import Derived.Test.YtefdjdipbnnoaaaDoorWide17
import Derived.Test.YtefdjdipbnnoaaaDoorHeld
import Derived.Shelf.Spec.BitsCarry
import Derived.Laws.BitsAllLaws
namespace Go.Proofs.YtefdjdipbnnoaaaDoor
open Go Go.RowKit
set_option linter.unusedVariables false

theorem cmpV_le' {x y : Nat} : decide (cmpV x y ≤ 0) = decide (x ≤ y) := by
  unfold cmpV
  split
  · simp; omega
  · split
    · simp; omega
    · simp; omega
theorem next_st {n q r j b : Nat} (h : RootAt 18446744073709551616 n r j) (hb : 2 ^ j = b) (hq : isq n = q) : (j = 0 ∧ b / 2 = 0 ∧ r = q) ∨ ∃ j', j = j' + 1 ∧ b / 2 = 2 ^ j' ∧ RootAt 18446744073709551616 n r j := by
  cases j with
  | zero => exact .inl ⟨rfl, by rw [← hb], h.done.trans hq⟩
  | succ k => exact .inr ⟨k, rfl, by rw [← hb, Nat.pow_succ]; omega, h⟩
def subRen : Go.Shelf.Ren := ⟨fun | 26 => 94 | n => n, fun | 22 => 106 | n => n, fun n => n⟩
theorem subLays : Go.Proofs.Lays7.n26 Tryd.prog subRen := {
  mixed := by kernel_rfl
  f26 := Tryd.func94.trans (congrArg some (by kernel_rfl))
  t22 := Tryd.underlying106
  a22 := Tryd.isAgg106
  z22 := Tryd.sizeOf106
  v22 := Tryd.zeroValue106
  i22 := by kernel_rfl }
theorem sub_run (x y b : Nat) (hb : b ≤ 1) (w : World) :
      (callFunc 94 #[.int .u64 x, .int .u64 y, .int .u64 b]).run Tryd.prog w =
      .ok (.value (.tuple #[.int .u64 (((x + 18446744073709551616 - y - b) % 18446744073709551616 : Nat) : Int), .int .u64 ((if x < y + b then 1 else 0 : Nat) : Int)])) w := Any7.bits_Sub64 subLays x y b hb w
set_option maxRecDepth 100000 in
theorem floor_any (n : Nat) (hn : n < 18446744073709551616) (w : World) : Calls Tryd.prog 92 #[.agg #[.int .u64 0, .int .u64 n]] w fun e w' => e = .returned (.int .u64 (isq n)) ∧ Below w.heap.size w w' := by
  obtain ⟨q, hq⟩ : ∃ q, isq n = q := ⟨_, rfl⟩
  have HQ := Lib.hid hq
  rw [hq]
  clear hq
  go_enter Tryd.func92, Tryd.ntmps92
  go_wp2_with fail
  go_loopw [3, 4] (fun s3 s4 wr => ∃ (i r b : Nat), i ≤ 64 ∧ (i = 0 ∧ b = 0 ∧ r = q ∨ ∃ j, i = j + 1 ∧ b = 2 ^ j ∧ RootAt 18446744073709551616 n r i) ∧ s3 = .int .u64 r ∧ s4 = .int .u64 b ∧ Blk wr w.heap.size 110 #[.int .u64 0, .int .u64 n] ∧ Below w.heap.size w wr)
    (fun _ s4 _ => (intOf s4).toNat)
  case atStart =>
    have h64 : (2 : Nat) ^ 64 * 2 ^ 64 = 340282366920938463463374607431768211456 := by decide
    exact ⟨64, 0, 9223372036854775808, Nat.le_refl _, .inr ⟨63, rfl, by decide, RootAt.start (by omega) (by decide)⟩, rfl, rfl, Blk.new _ _ _, (Below.refl _ _).alloc (Nat.le_refl _) _⟩
  case round =>
    obtain ⟨i, r, b, hi, hst, rfl, rfl, hb, bel⟩ := hrel
    have HB := Lib.hid hb
    have BEL := Lib.hid bel
    have sz := bel.size
    clear hb bel
    rcases hst with ⟨rfl, rfl, rfl⟩ | ⟨j, rfl, rfl, hr⟩
    · go_wp2_with fail
      go_ret
      exact ⟨rfl, BEL.out⟩
    · have HRT := Lib.hid hr
      obtain ⟨b, hb2⟩ : ∃ b, 2 ^ j = b := ⟨_, rfl⟩
      have HB2 := Lib.hid hb2
      have hor : r ||| b = r + b := by rw [← hb2]; exact or_bit hr.mod
      have hpos : 0 < b := by rw [← hb2]; exact Nat.pos_of_ne_zero (by simp)
      have htop := hr.top
      rw [Nat.pow_succ, hb2] at htop
      rw [hb2]
      have hor2 : bits .or .u64 (r : Int) (b : Int) = ((r + b : Nat) : Int) := by rw [u64_or_nat r b (by omega) (by omega), hor]
      obtain ⟨x, hx⟩ : ∃ x, r + b = x := ⟨_, rfl⟩
      rw [hx] at hor2
      have hxl : x < 18446744073709551616 := by omega
      have d0 : decide (0 < b) = true := decide_eq_true hpos
      have d0' : decide (0 < (b : Int)) = true := decide_eq_true (by omega)
      have HX := Lib.hid hx
      have hbl : b ≤ 9223372036854775808 := by omega
      clear hr hb2 hor hx
      go_upto_region 6 with fail
      let S : World → Prop := fun W => Blk W w.heap.size 110 #[.int .u64 0, .int .u64 n] ∧ Below w.heap.size w W
      have hs : S wr.drew := ⟨HB.out.drew, BEL.out.drew⟩
      have inst : Nonempty (At S) := ⟨⟨_, hs⟩⟩
      have SB : ∀ W W', S W → Below W.heap.size W W' → S W' := fun W W' h b => ⟨h.1.below b h.1.lt, h.2.trans (b.mono h.2.size)⟩
      obtain ⟨ph, hph⟩ : ∃ p, x * x / 18446744073709551616 = p := ⟨_, rfl⟩
      obtain ⟨pl, hpl⟩ : ∃ p, x * x % 18446744073709551616 = p := ⟨_, rfl⟩
      have hpp : ph * 18446744073709551616 + pl = x * x := by omega
      have hpl2 : pl < 18446744073709551616 := by omega
      obtain ⟨cv, hcv⟩ : ∃ c, cmpV (x * x) n = c := ⟨_, rfl⟩
      have H1 := Lib.hid (fun q : At S => (wprod_any x x hxl hxl q.w).mono (fun e w' h => (⟨by rw [h.1, hph, hpl], SB _ _ q.ok h.2⟩ : e = .returned (.agg #[.int .u64 ph, .int .u64 pl]) ∧ S w')))
      have H2 := Lib.hid (fun q : At S => (wcompare_any ph pl 0 n hpl2 hn q.w).mono (fun e w' h => (⟨by rw [h.1, hpp, Nat.zero_mul, Nat.zero_add, hcv], SB _ _ q.ok h.2⟩ : e = .returned (.int .i64 cv) ∧ S w')))
      have HLD := Lib.hid (fun q : At S => (show (Instr.loadAt 110 (.pointer (some ⟨w.heap.size, 0, none⟩))).run Tryd.prog q.w = .ok (.agg #[.int .u64 0, .int .u64 n]) q.w from load_of (cs := [.int .u64 0, .int .u64 n]) q.ok.1 Tryd.underlying110 rfl (by kernel_rfl)))
      have HFIN : Hid (∀ q : At S, Blk q.w w.heap.size 110 #[.int .u64 0, .int .u64 n] ∧ Below w.heap.size w q.w) := Lib.hid (fun q : At S => q.ok)
      have HCV := Lib.hid hcv
      have hcd : decide (cv ≤ 0) = decide (x * x ≤ n) := by rw [← hcv]; exact cmpV_le'
      have HCD := Lib.hid hcd
      clear hph hpl hpp hpl2 hcv SB HB BEL hcd
      clear_value S
      refine wp_region_at S (by kernel_rfl) (by kernel_rfl) hs ?_
      try simp only [List.append_eq, List.cons_append, List.nil_append]
      repeat (first
        | (go_big_quiet_want; (first
            | refine quiet_load 110 (.tmp 1) rfl _ _ rfl HLD.out ?_); simp only [Act.put, List.setIfInBounds_toArray, List.set_cons_zero, List.set_cons_succ]; go_big_quiet_on)
        | go_big_quiet_step (first | with_reducible exact Calls.at_of (H1.out _) fun e w' h => ⟨h.1, h.2⟩ | with_reducible exact Calls.at_of (H2.out _) fun e w' h => ⟨h.1, h.2⟩))
      refine wpQuiet_nil ?_
      rintro _ ⟨p, rfl⟩
      obtain ⟨B7, BEL7⟩ := HFIN.out p
      generalize p.w = W7 at B7 BEL7 ⊢
      clear HFIN inst hs H1 H2 HLD HCV
      have B7 := Lib.hid B7
      have BEL7 := Lib.hid BEL7
      by_cases hle : x * x ≤ n
      · have d1 : decide (cv ≤ 0) = true := HCD.out.trans (decide_eq_true hle)
        have p1 : cv ≤ 0 := of_decide_eq_true d1
        have HN := Lib.hid (next_st (show RootAt 18446744073709551616 n x j by have := HRT.out.take (by rw [HB2.out, HX.out]; exact hle); rw [HB2.out, HX.out] at this; exact this) HB2.out HQ.out)
        clear hle
        go_wp2_with fail
        go_roundw
        case rel => exact ⟨j, x, b / 2, by omega, HN.out, rfl, by go_num, B7.out, BEL7.out⟩
        case measure => simp [intOf] <;> omega
      · have d1 : decide (cv ≤ 0) = false := HCD.out.trans (decide_eq_false hle)
        have p1 : ¬ cv ≤ 0 := of_decide_eq_false d1
        have HN := Lib.hid (next_st (HRT.out.skip (by rw [HB2.out, HX.out]; exact hle)) HB2.out HQ.out)
        clear hle
        go_wp2_with fail
        go_roundw
        case rel => exact ⟨j, r, b / 2, by omega, HN.out, rfl, by go_num, B7.out, BEL7.out⟩
        case measure => simp [intOf] <;> omega
def upV (r : Nat) (n : Nat) : Nat := if r * r = n then r else r + 1
theorem signed_any (n : Nat) (h : n < 9223372036854775808) (w : World) : Calls Tryd.prog 95 #[.int .u64 n, .bool false] w fun e w' => e = .returned (.tuple #[.int .i64 n, .bool true]) ∧ w = w' := by
  have d0 : decide (n < 9223372036854775808) = true := decide_eq_true h
  have d0' : decide ((n : Int) < 9223372036854775808) = true := decide_eq_true (by omega)
  have hw : IntKind.i64.wrap (n : Int) = n := by rw [IntKind.wrap_i64]; omega
  go_enter Tryd.func95, Tryd.ntmps95
  go_wp2_with fail
  go_ret2
  exact ⟨rfl, rfl⟩
theorem known_up (w : World) : Calls Tryd.prog 80 #[.int .i64 1] w fun e w' => e = .returned (.bool true) ∧ w = w' := by
  go_enter Tryd.func80, Tryd.ntmps80
  go_wp2_with fail
  go_ret
  exact ⟨rfl, rfl⟩
set_option maxRecDepth 100000 in
theorem root_any (n : Nat) (hn : n < 4611686018427387904) (w : World) : Calls Tryd.prog 81 #[.agg #[.int .u64 0, .int .u64 n], .int .i64 1] w fun e w' => e = .returned (.tuple #[.int .i64 (upR n), .bool true]) ∧ Below w.heap.size w w' := by
  obtain ⟨r, hr⟩ : ∃ q, isq n = q := ⟨_, rfl⟩
  have hrl : r < 2147483648 := by rw [← hr]; exact isq_lt (by omega)
  have hrs := (isq_spec n).1
  have hup : upR n = if r * r = n then r else r + 1 := by unfold upR; rw [hr]
  have KF := floor_any n (by omega)
  rw [hr] at KF hrs
  have hrr : r * r < 4611686018427387904 := by omega
  have KM := fun W => mul64_any r r (by omega) (by omega) W
  rw [Nat.div_eq_of_lt (by omega), Nat.mod_eq_of_lt (by omega)] at KM
  have KF := Lib.hid KF
  have KM := Lib.hid KM
  obtain ⟨m, hm⟩ : ∃ m, r * r = m := ⟨_, rfl⟩
  rw [hm] at KM hrs hrr hup
  have KS1 := sub_run n m 0 (by omega)
  have KS2 := sub_run 0 0 0 (by omega)
  rw [show (n + 18446744073709551616 - m - 0) % 18446744073709551616 = n - m by omega, if_neg (by omega)] at KS1
  obtain ⟨d, hd⟩ : ∃ d, n - m = d := ⟨_, rfl⟩
  rw [hd] at KS1
  have KS1 := fun W => KS1 W
  have KS2 := fun W => KS2 W
  have HUP := Lib.hid hup
  have HD := Lib.hid hd
  have HM := Lib.hid hm
  have hmn := Lib.hid hrs
  obtain ⟨rv, hrv⟩ : ∃ v, upR n = v := ⟨_, rfl⟩
  rw [hrv]
  rw [HUP.out] at hrv
  have HRV := Lib.hid hrv
  have G1 := fun W => signed_any r (by omega) W
  have G2 : ∀ W, Calls Tryd.prog 95 #[.int .u64 ((r : Int) + 1), .bool false] W fun e w' => e = .returned (.tuple #[.int .i64 ((r + 1 : Nat) : Int), .bool true]) ∧ W = w' := fun W => signed_any (r + 1) (by omega) W
  have G1 := Lib.hid G1
  have G2 := Lib.hid G2
  have KS1 : ∀ W, (callFunc 94 #[.int .u64 (n : Int), .int .u64 (m : Int), .int .u64 0]).run Tryd.prog W = .ok (.value (.tuple #[.int .u64 (d : Int), .int .u64 0])) W := KS1
  have KS2 : ∀ W, (callFunc 94 #[.int .u64 0, .int .u64 0, .int .u64 0]).run Tryd.prog W = .ok (.value (.tuple #[.int .u64 0, .int .u64 0])) W := KS2
  clear hr hup hd hm hrs hrr hrv
  go_enter Tryd.func81, Tryd.ntmps81
  go_wp2_with fail
  refine (KF.out _).mono ?_
  rintro e w1 ⟨rfl, b1⟩
  have hb0 := (Blk.new w _ _ : Blk (w.alloc (.cells #[.int .u64 0, .int .u64 n] 110)) w.heap.size 110 #[.int .u64 0, .int .u64 n])
  have HB := Lib.hid (hb0.below b1 hb0.lt)
  have BEL := Lib.hid (((Below.refl w.heap.size w).alloc (Nat.le_refl _) (.cells #[.int .u64 0, .int .u64 n] 110)).trans (b1.mono (by simp)))
  have c0 := HB.out.cell' 0 rfl
  have c1 := HB.out.cell' 1 rfl
  clear b1 hb0 KF
  go_wp2_with fail
  refine (KM.out _).mono ?_
  rintro e w2 ⟨rfl, rfl⟩
  clear KM
  by_cases hz : m = n
  · obtain rfl : rv = r := HRV.out.symm.trans (if_pos hz)
    have hd0 : d = 0 := by rw [← HD.out]; omega
    subst hd0
    clear hz
    go_wp2_with fail
    refine (G1.out _).mono ?_
    rintro e w3 ⟨rfl, rfl⟩
    go_wp2_with fail
    go_ret2
    exact ⟨rfl, BEL.out⟩
  · obtain rfl : rv = r + 1 := HRV.out.symm.trans (if_neg hz)
    have hd0 : 0 < d := by rw [← HD.out]; have := hmn.out; omega
    have dd : decide (0 < d) = true := decide_eq_true hd0
    have dd' : decide (0 < (d : Int)) = true := decide_eq_true (by omega)
    clear hz hd0
    go_wp2_with fail
    refine (G2.out _).mono ?_
    rintro e w3 ⟨rfl, rfl⟩
    go_wp2_with fail
    go_ret2
    exact ⟨rfl, BEL.out⟩
theorem wsqrt_up (n : Nat) (hn : n < 4611686018427387904) (w : World) : Calls Tryd.prog 64 #[.int .i64 n, .int .i64 1] w fun e w' => e = .returned (.tuple #[.int .i64 (upR n), .bool true]) ∧ Below w.heap.size w w' := by
  have d0 : decide ((n : Int) < 0) = false := decide_eq_false (by omega)
  have hw : IntKind.u64.wrap (n : Int) = n := by rw [IntKind.wrap_u64]; omega
  have KR := Lib.hid (root_any n hn w)
  go_enter Tryd.func64, Tryd.ntmps64
  go_wp2_with fail
  refine (known_up _).mono ?_
  rintro e w3 ⟨rfl, rfl⟩
  go_wp2_with fail
  refine KR.out.mono ?_
  rintro e w3 ⟨rfl, b3⟩
  go_wp2_with fail
  go_ret2
  exact ⟨rfl, b3⟩
end Go.Proofs.YtefdjdipbnnoaaaDoor
