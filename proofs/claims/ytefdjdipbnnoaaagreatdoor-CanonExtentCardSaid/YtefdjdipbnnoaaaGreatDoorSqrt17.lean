/-
  Plain: whole square roots; a root that is built bit by bit. No program.
  wide.floorRoot, root, signed, Sqrt (rounded up): any number below 2^62. math/bits.Sub64 by the shelf.
  cncref01.root, rounded, Root, Sqrt (rounded up): any number below 2^48.
-/
import Derived.Test.YtefdjdipbnnoaaaGreatDoorGeo17
import Derived.Test.YtefdjdipbnnoaaaGreatDoorWide17
import Derived.Test.YtefdjdipbnnoaaaGreatDoorHeld
import Derived.Shelf.Spec.BitsCarry
import Derived.Laws.BitsAllLaws
import Derived.Test.YtefdjdipbnnoaaaGreatDoorBigC17
namespace Go.Proofs.YtefdjdipbnnoaaaGreatDoor
set_option linter.unusedVariables false

/-- The floor of the square root. -/
def isq : Nat → Nat
  | 0 => 0
  | n + 1 => if (isq n + 1) * (isq n + 1) ≤ n + 1 then isq n + 1 else isq n
theorem isq_spec : ∀ n, isq n * isq n ≤ n ∧ n < (isq n + 1) * (isq n + 1)
  | 0 => by decide
  | n + 1 => by
    obtain ⟨h1, h2⟩ := isq_spec n
    unfold isq
    split
    · rename_i h
      refine ⟨h, ?_⟩
      have e : (isq n + 1 + 1) * (isq n + 1 + 1) = (isq n + 1) * (isq n + 1) + 2 * (isq n + 1) + 1 := by rw [Nat.add_mul (isq n + 1) 1, Nat.mul_add]; omega
      omega
    · rename_i h
      exact ⟨by omega, by omega⟩
theorem isq_unique {n r : Nat} (h1 : r * r ≤ n) (h2 : n < (r + 1) * (r + 1)) : r = isq n := by
  obtain ⟨g1, g2⟩ := isq_spec n
  rcases Nat.lt_trichotomy r (isq n) with h | h | h
  · have := Nat.mul_self_le_mul_self (show r + 1 ≤ isq n by omega); omega
  · exact h
  · have := Nat.mul_self_le_mul_self (show isq n + 1 ≤ r by omega); omega
theorem isq_lt {n B : Nat} (h : n < B * B) : isq n < B := by
  obtain ⟨g1, _⟩ := isq_spec n
  rcases Nat.lt_or_ge (isq n) B with h' | h'
  · exact h'
  · have := Nat.mul_self_le_mul_self h'; omega
/-- The square root, rounded up. -/
def upR (n : Nat) : Nat := if isq n * isq n = n then isq n else isq n + 1
theorem upR_le {n B : Nat} (h : n < B * B) : upR n ≤ B := by
  have := isq_lt h
  unfold upR
  split <;> omega
/-- A bit is set in a number that has only higher ones. -/
theorem or_bit {r i : Nat} (h : r % 2 ^ (i + 1) = 0) : r ||| 2 ^ i = r + 2 ^ i := by
  obtain ⟨a, rfl⟩ := Nat.dvd_of_mod_eq_zero h
  rw [← Nat.two_pow_add_eq_or_of_lt (show 2 ^ i < 2 ^ (i + 1) from Nat.pow_lt_pow_right (by omega) (by omega))]
/-- The state of a root behind the bits above i. -/
structure RootAt (P n r i : Nat) : Prop where
  low : r * r ≤ n
  high : n < (r + 2 ^ i) * (r + 2 ^ i)
  mod : r % 2 ^ i = 0
  top : r + 2 ^ i ≤ P
theorem RootAt.take {P n r i : Nat} (h : RootAt P n r (i + 1)) (hle : (r + 2 ^ i) * (r + 2 ^ i) ≤ n) : RootAt P n (r + 2 ^ i) i := by
  have e : r + 2 ^ i + 2 ^ i = r + 2 ^ (i + 1) := by rw [Nat.pow_succ]; omega
  refine ⟨hle, by rw [e]; exact h.high, ?_, by rw [e]; exact h.top⟩
  have h2 : r % 2 ^ i = 0 := by
    obtain ⟨a, ha⟩ := Nat.dvd_of_mod_eq_zero h.mod
    rw [ha, Nat.pow_succ, Nat.mul_assoc]
    exact Nat.mul_mod_right _ _
  rw [Nat.add_mod_right]
  exact h2
theorem RootAt.skip {P n r i : Nat} (h : RootAt P n r (i + 1)) (hgt : ¬ (r + 2 ^ i) * (r + 2 ^ i) ≤ n) : RootAt P n r i := by
  refine ⟨h.low, by omega, ?_, ?_⟩
  · obtain ⟨a, ha⟩ := Nat.dvd_of_mod_eq_zero h.mod
    rw [ha, Nat.pow_succ, Nat.mul_assoc]
    exact Nat.mul_mod_right _ _
  · have := h.top; rw [Nat.pow_succ] at this; omega
theorem RootAt.done {P n r : Nat} (h : RootAt P n r 0) : r = isq n := isq_unique h.low h.high
theorem RootAt.start {P n i : Nat} (h : n < 2 ^ i * 2 ^ i) (hP : 2 ^ i ≤ P) : RootAt P n 0 i := ⟨by omega, by simpa using h, by simp, by simpa using hP⟩
end Go.Proofs.YtefdjdipbnnoaaaGreatDoor

namespace Go.Proofs.YtefdjdipbnnoaaaGreatDoor
open Go Go.RowKit
set_option linter.unusedVariables false

theorem cmpV_le' {x y : Nat} : decide (cmpV x y ≤ 0) = decide (x ≤ y) := by
  unfold cmpV
  split
  · simp; omega
  · split
    · simp; omega
    · simp; omega
theorem next_st {n q r j b : Nat} (h : RootAt 18446744073709551616 n r j) (hb : 2 ^ j = b) (hq : isq n = q) : (j = 0 ∧ b / 2 = 0 ∧ r = q) ∨ ∃ j', j = j' + 1 ∧ b / 2 = 2 ^ j' ∧ RootAt 18446744073709551616 n r j := by
  cases j with
  | zero => exact .inl ⟨rfl, by rw [← hb], h.done.trans hq⟩
  | succ k => exact .inr ⟨k, rfl, by rw [← hb, Nat.pow_succ]; omega, h⟩
def subRen : Go.Shelf.Ren := ⟨fun | 26 => 113 | n => n, fun | 22 => 123 | n => n, fun n => n⟩
theorem subLays : Go.Proofs.Lays7.n26 Tryz.prog subRen := {
  mixed := by kernel_rfl
  f26 := Tryz.func113.trans (congrArg some (by kernel_rfl))
  t22 := Tryz.underlying123
  a22 := Tryz.isAgg123
  z22 := Tryz.sizeOf123
  v22 := Tryz.zeroValue123
  i22 := by kernel_rfl }
theorem sub_run (x y b : Nat) (hb : b ≤ 1) (w : World) :
      (callFunc 113 #[.int .u64 x, .int .u64 y, .int .u64 b]).run Tryz.prog w =
      .ok (.value (.tuple #[.int .u64 (((x + 18446744073709551616 - y - b) % 18446744073709551616 : Nat) : Int), .int .u64 ((if x < y + b then 1 else 0 : Nat) : Int)])) w := Any7.bits_Sub64 subLays x y b hb w
set_option maxRecDepth 100000 in
theorem floor_any (n : Nat) (hn : n < 18446744073709551616) (w : World) : Calls Tryz.prog 111 #[.agg #[.int .u64 0, .int .u64 n]] w fun e w' => e = .returned (.int .u64 (isq n)) ∧ Below w.heap.size w w' := by
  obtain ⟨q, hq⟩ : ∃ q, isq n = q := ⟨_, rfl⟩
  have HQ := Lib.hid hq
  rw [hq]
  clear hq
  go_enter Tryz.func111, Tryz.ntmps111
  go_wp2_with fail
  go_loopw [3, 4] (fun s3 s4 wr => ∃ (i r b : Nat), i ≤ 64 ∧ (i = 0 ∧ b = 0 ∧ r = q ∨ ∃ j, i = j + 1 ∧ b = 2 ^ j ∧ RootAt 18446744073709551616 n r i) ∧ s3 = .int .u64 r ∧ s4 = .int .u64 b ∧ Blk wr w.heap.size 125 #[.int .u64 0, .int .u64 n] ∧ Below w.heap.size w wr)
    (fun _ s4 _ => (intOf s4).toNat)
  case atStart =>
    have h64 : (2 : Nat) ^ 64 * 2 ^ 64 = 340282366920938463463374607431768211456 := by decide
    exact ⟨64, 0, 9223372036854775808, Nat.le_refl _, .inr ⟨63, rfl, by decide, RootAt.start (by omega) (by decide)⟩, rfl, rfl, Blk.new _ _ _, (Below.refl _ _).alloc (Nat.le_refl _) _⟩
  case round =>
    obtain ⟨i, r, b, hi, hst, rfl, rfl, hb, bel⟩ := hrel
    have HB := Lib.hid hb
    have BEL := Lib.hid bel
    have sz := bel.size
    clear hb bel
    rcases hst with ⟨rfl, rfl, rfl⟩ | ⟨j, rfl, rfl, hr⟩
    · go_wp2_with fail
      go_ret
      exact ⟨rfl, BEL.out⟩
    · have HRT := Lib.hid hr
      obtain ⟨b, hb2⟩ : ∃ b, 2 ^ j = b := ⟨_, rfl⟩
      have HB2 := Lib.hid hb2
      have hor : r ||| b = r + b := by rw [← hb2]; exact or_bit hr.mod
      have hpos : 0 < b := by rw [← hb2]; exact Nat.pos_of_ne_zero (by simp)
      have htop := hr.top
      rw [Nat.pow_succ, hb2] at htop
      rw [hb2]
      have hor2 : bits .or .u64 (r : Int) (b : Int) = ((r + b : Nat) : Int) := by rw [u64_or_nat r b (by omega) (by omega), hor]
      obtain ⟨x, hx⟩ : ∃ x, r + b = x := ⟨_, rfl⟩
      rw [hx] at hor2
      have hxl : x < 18446744073709551616 := by omega
      have d0 : decide (0 < b) = true := decide_eq_true hpos
      have d0' : decide (0 < (b : Int)) = true := decide_eq_true (by omega)
      have HX := Lib.hid hx
      have hbl : b ≤ 9223372036854775808 := by omega
      clear hr hb2 hor hx
      go_upto_region 6 with fail
      let S : World → Prop := fun W => Blk W w.heap.size 125 #[.int .u64 0, .int .u64 n] ∧ Below w.heap.size w W
      have hs : S wr.drew := ⟨HB.out.drew, BEL.out.drew⟩
      have inst : Nonempty (At S) := ⟨⟨_, hs⟩⟩
      have SB : ∀ W W', S W → Below W.heap.size W W' → S W' := fun W W' h b => ⟨h.1.below b h.1.lt, h.2.trans (b.mono h.2.size)⟩
      obtain ⟨ph, hph⟩ : ∃ p, x * x / 18446744073709551616 = p := ⟨_, rfl⟩
      obtain ⟨pl, hpl⟩ : ∃ p, x * x % 18446744073709551616 = p := ⟨_, rfl⟩
      have hpp : ph * 18446744073709551616 + pl = x * x := by omega
      have hpl2 : pl < 18446744073709551616 := by omega
      obtain ⟨cv, hcv⟩ : ∃ c, cmpV (x * x) n = c := ⟨_, rfl⟩
      have H1 := Lib.hid (fun q : At S => (wprod_any x x hxl hxl q.w).mono (fun e w' h => (⟨by rw [h.1, hph, hpl], SB _ _ q.ok h.2⟩ : e = .returned (.agg #[.int .u64 ph, .int .u64 pl]) ∧ S w')))
      have H2 := Lib.hid (fun q : At S => (wcompare_any ph pl 0 n hpl2 hn q.w).mono (fun e w' h => (⟨by rw [h.1, hpp, Nat.zero_mul, Nat.zero_add, hcv], SB _ _ q.ok h.2⟩ : e = .returned (.int .i64 cv) ∧ S w')))
      have HLD := Lib.hid (fun q : At S => (show (Instr.loadAt 125 (.pointer (some ⟨w.heap.size, 0, none⟩))).run Tryz.prog q.w = .ok (.agg #[.int .u64 0, .int .u64 n]) q.w from load_of (cs := [.int .u64 0, .int .u64 n]) q.ok.1 Tryz.underlying125 rfl (by kernel_rfl)))
      have HFIN : Hid (∀ q : At S, Blk q.w w.heap.size 125 #[.int .u64 0, .int .u64 n] ∧ Below w.heap.size w q.w) := Lib.hid (fun q : At S => q.ok)
      have HCV := Lib.hid hcv
      have hcd : decide (cv ≤ 0) = decide (x * x ≤ n) := by rw [← hcv]; exact cmpV_le'
      have HCD := Lib.hid hcd
      clear hph hpl hpp hpl2 hcv SB HB BEL hcd
      clear_value S
      refine wp_region_at S (by kernel_rfl) (by kernel_rfl) hs ?_
      try simp only [List.append_eq, List.cons_append, List.nil_append]
      repeat (first
        | (go_big_quiet_want; (first
            | refine quiet_load 125 (.tmp 1) rfl _ _ rfl HLD.out ?_); simp only [Act.put, List.setIfInBounds_toArray, List.set_cons_zero, List.set_cons_succ]; go_big_quiet_on)
        | go_big_quiet_step (first | with_reducible exact Calls.at_of (H1.out _) fun e w' h => ⟨h.1, h.2⟩ | with_reducible exact Calls.at_of (H2.out _) fun e w' h => ⟨h.1, h.2⟩))
      refine wpQuiet_nil ?_
      rintro _ ⟨p, rfl⟩
      obtain ⟨B7, BEL7⟩ := HFIN.out p
      generalize p.w = W7 at B7 BEL7 ⊢
      clear HFIN inst hs H1 H2 HLD HCV
      have B7 := Lib.hid B7
      have BEL7 := Lib.hid BEL7
      by_cases hle : x * x ≤ n
      · have d1 : decide (cv ≤ 0) = true := HCD.out.trans (decide_eq_true hle)
        have p1 : cv ≤ 0 := of_decide_eq_true d1
        have HN := Lib.hid (next_st (show RootAt 18446744073709551616 n x j by have := HRT.out.take (by rw [HB2.out, HX.out]; exact hle); rw [HB2.out, HX.out] at this; exact this) HB2.out HQ.out)
        clear hle
        go_wp2_with fail
        go_roundw
        case rel => exact ⟨j, x, b / 2, by omega, HN.out, rfl, by go_num, B7.out, BEL7.out⟩
        case measure => simp [intOf] <;> omega
      · have d1 : decide (cv ≤ 0) = false := HCD.out.trans (decide_eq_false hle)
        have p1 : ¬ cv ≤ 0 := of_decide_eq_false d1
        have HN := Lib.hid (next_st (HRT.out.skip (by rw [HB2.out, HX.out]; exact hle)) HB2.out HQ.out)
        clear hle
        go_wp2_with fail
        go_roundw
        case rel => exact ⟨j, r, b / 2, by omega, HN.out, rfl, by go_num, B7.out, BEL7.out⟩
        case measure => simp [intOf] <;> omega
def upV (r : Nat) (n : Nat) : Nat := if r * r = n then r else r + 1
theorem signed_any (n : Nat) (h : n < 9223372036854775808) (w : World) : Calls Tryz.prog 114 #[.int .u64 n, .bool false] w fun e w' => e = .returned (.tuple #[.int .i64 n, .bool true]) ∧ w = w' := by
  have d0 : decide (n < 9223372036854775808) = true := decide_eq_true h
  have d0' : decide ((n : Int) < 9223372036854775808) = true := decide_eq_true (by omega)
  have hw : IntKind.i64.wrap (n : Int) = n := by rw [IntKind.wrap_i64]; omega
  go_enter Tryz.func114, Tryz.ntmps114
  go_wp2_with fail
  go_ret2
  exact ⟨rfl, rfl⟩
theorem known_up (w : World) : Calls Tryz.prog 92 #[.int .i64 1] w fun e w' => e = .returned (.bool true) ∧ w = w' := by
  go_enter Tryz.func92, Tryz.ntmps92
  go_wp2_with fail
  go_ret
  exact ⟨rfl, rfl⟩
set_option maxRecDepth 100000 in
theorem root_any (n : Nat) (hn : n < 4611686018427387904) (w : World) : Calls Tryz.prog 93 #[.agg #[.int .u64 0, .int .u64 n], .int .i64 1] w fun e w' => e = .returned (.tuple #[.int .i64 (upR n), .bool true]) ∧ Below w.heap.size w w' := by
  obtain ⟨r, hr⟩ : ∃ q, isq n = q := ⟨_, rfl⟩
  have hrl : r < 2147483648 := by rw [← hr]; exact isq_lt (by omega)
  have hrs := (isq_spec n).1
  have hup : upR n = if r * r = n then r else r + 1 := by unfold upR; rw [hr]
  have KF := floor_any n (by omega)
  rw [hr] at KF hrs
  have hrr : r * r < 4611686018427387904 := by omega
  have KM := fun W => mul64_any r r (by omega) (by omega) W
  rw [Nat.div_eq_of_lt (by omega), Nat.mod_eq_of_lt (by omega)] at KM
  have KF := Lib.hid KF
  have KM := Lib.hid KM
  obtain ⟨m, hm⟩ : ∃ m, r * r = m := ⟨_, rfl⟩
  rw [hm] at KM hrs hrr hup
  have KS1 := sub_run n m 0 (by omega)
  have KS2 := sub_run 0 0 0 (by omega)
  rw [show (n + 18446744073709551616 - m - 0) % 18446744073709551616 = n - m by omega, if_neg (by omega)] at KS1
  obtain ⟨d, hd⟩ : ∃ d, n - m = d := ⟨_, rfl⟩
  rw [hd] at KS1
  have KS1 := fun W => KS1 W
  have KS2 := fun W => KS2 W
  have HUP := Lib.hid hup
  have HD := Lib.hid hd
  have HM := Lib.hid hm
  have hmn := Lib.hid hrs
  obtain ⟨rv, hrv⟩ : ∃ v, upR n = v := ⟨_, rfl⟩
  rw [hrv]
  rw [HUP.out] at hrv
  have HRV := Lib.hid hrv
  have G1 := fun W => signed_any r (by omega) W
  have G2 : ∀ W, Calls Tryz.prog 114 #[.int .u64 ((r : Int) + 1), .bool false] W fun e w' => e = .returned (.tuple #[.int .i64 ((r + 1 : Nat) : Int), .bool true]) ∧ W = w' := fun W => signed_any (r + 1) (by omega) W
  have G1 := Lib.hid G1
  have G2 := Lib.hid G2
  have KS1 : ∀ W, (callFunc 113 #[.int .u64 (n : Int), .int .u64 (m : Int), .int .u64 0]).run Tryz.prog W = .ok (.value (.tuple #[.int .u64 (d : Int), .int .u64 0])) W := KS1
  have KS2 : ∀ W, (callFunc 113 #[.int .u64 0, .int .u64 0, .int .u64 0]).run Tryz.prog W = .ok (.value (.tuple #[.int .u64 0, .int .u64 0])) W := KS2
  clear hr hup hd hm hrs hrr hrv
  go_enter Tryz.func93, Tryz.ntmps93
  go_wp2_with fail
  refine (KF.out _).mono ?_
  rintro e w1 ⟨rfl, b1⟩
  have hb0 := (Blk.new w _ _ : Blk (w.alloc (.cells #[.int .u64 0, .int .u64 n] 125)) w.heap.size 125 #[.int .u64 0, .int .u64 n])
  have HB := Lib.hid (hb0.below b1 hb0.lt)
  have BEL := Lib.hid (((Below.refl w.heap.size w).alloc (Nat.le_refl _) (.cells #[.int .u64 0, .int .u64 n] 125)).trans (b1.mono (by simp)))
  have c0 := HB.out.cell' 0 rfl
  have c1 := HB.out.cell' 1 rfl
  clear b1 hb0 KF
  go_wp2_with fail
  refine (KM.out _).mono ?_
  rintro e w2 ⟨rfl, rfl⟩
  clear KM
  by_cases hz : m = n
  · obtain rfl : rv = r := HRV.out.symm.trans (if_pos hz)
    have hd0 : d = 0 := by rw [← HD.out]; omega
    subst hd0
    clear hz
    go_wp2_with fail
    refine (G1.out _).mono ?_
    rintro e w3 ⟨rfl, rfl⟩
    go_wp2_with fail
    go_ret2
    exact ⟨rfl, BEL.out⟩
  · obtain rfl : rv = r + 1 := HRV.out.symm.trans (if_neg hz)
    have hd0 : 0 < d := by rw [← HD.out]; have := hmn.out; omega
    have dd : decide (0 < d) = true := decide_eq_true hd0
    have dd' : decide (0 < (d : Int)) = true := decide_eq_true (by omega)
    clear hz hd0
    go_wp2_with fail
    refine (G2.out _).mono ?_
    rintro e w3 ⟨rfl, rfl⟩
    go_wp2_with fail
    go_ret2
    exact ⟨rfl, BEL.out⟩
theorem wsqrt_up (n : Nat) (hn : n < 4611686018427387904) (w : World) : Calls Tryz.prog 58 #[.int .i64 n, .int .i64 1] w fun e w' => e = .returned (.tuple #[.int .i64 (upR n), .bool true]) ∧ Below w.heap.size w w' := by
  have d0 : decide ((n : Int) < 0) = false := decide_eq_false (by omega)
  have hw : IntKind.u64.wrap (n : Int) = n := by rw [IntKind.wrap_u64]; omega
  have KR := Lib.hid (root_any n hn w)
  go_enter Tryz.func58, Tryz.ntmps58
  go_wp2_with fail
  refine (known_up _).mono ?_
  rintro e w3 ⟨rfl, rfl⟩
  go_wp2_with fail
  refine KR.out.mono ?_
  rintro e w3 ⟨rfl, b3⟩
  go_wp2_with fail
  go_ret2
  exact ⟨rfl, b3⟩
end Go.Proofs.YtefdjdipbnnoaaaGreatDoor

namespace Go.Proofs.YtefdjdipbnnoaaaGreatDoor
open Go Go.RowKit
set_option linter.unusedVariables false
set_option linter.unusedSimpArgs false

theorem results_tmp3 {P : Program} {fn : Func} {p q r : Tmp} (h : fn.results = #[.tmp p, .tmp q, .tmp r]) (tmps : Array Value) (w : World) : (results fn tmps).run P w = .ok (.tuple #[tmps.getD p undef, tmps.getD q undef, tmps.getD r undef]) w := by
  simp [results, h]
theorem cmpV_leN {x y : Nat} : decide (cmpV x y ≤ 0) = decide (x ≤ y) := by
  unfold cmpV
  split
  · simp; omega
  · split
    · simp; omega
    · simp; omega
theorem cmpV_eqN {x y : Nat} : (cmpV x y == 0) = decide (x = y) := by
  unfold cmpV
  split
  · simp; omega
  · split
    · simp_all
    · simp; omega
set_option maxRecDepth 100000 in
set_option maxHeartbeats 2000000 in
theorem rroot_any (a : Option Addr) (c : Nat) (l : List Nat) (n : Nat) (w : World) (hat : U64At w a l) (hv : lval l = n) (hnm : Norm l) (hl : l.length ≤ 8) (hn : n < 281474976710656) :
    Calls Tryz.prog 118 #[.slice a l.length c] w fun e w' => ∃ h : Int, e = .returned (.tuple #[.int .u64 (isq n), .bool (decide (isq n * isq n = n)), .int .i64 h]) ∧ Below w.heap.size w w' := by
  obtain ⟨q, hq⟩ : ∃ q, isq n = q := ⟨_, rfl⟩
  have HQ := Lib.hid hq
  have hql : q < 16777216 := by rw [← hq]; exact isq_lt (by omega)
  have HAT := Lib.hid hat
  have HV := Lib.hid hv
  have HNM := Lib.hid hnm
  obtain ⟨m, hm⟩ : ∃ m, l.length = m := ⟨_, rfl⟩
  have HM := Lib.hid hm
  rw [hm] at hl ⊢
  rw [hq]
  clear hq hat hv hnm hm
  go_enter Tryz.func118, Tryz.ntmps118
  go_wp2_with fail
  go_loopw [5, 6] (fun s5 s6 wr => ∃ (i r : Nat) (iz : Int), i ≤ 63 ∧ iz = (i : Int) - 1 ∧ s6 = .int .i64 iz ∧ s5 = .int .u64 r ∧ RootAt 9223372036854775808 n r i ∧ Below w.heap.size w wr)
    (fun _ s6 _ => (intOf s6 + 1).toNat)
  case atStart =>
    have h63 : (2 : Nat) ^ 63 * 2 ^ 63 = 85070591730234615865843651857942052864 := by decide
    exact ⟨63, 0, 62, Nat.le_refl _, rfl, rfl, rfl, RootAt.start (by omega) (by decide), Below.refl _ _⟩
  case round =>
    obtain ⟨i, r, iz, hi, hiz, rfl, rfl, hr, bel⟩ := hrel
    have BEL := Lib.hid bel
    have sz := bel.size
    clear bel
    cases i with
    | zero =>
      obtain rfl : iz = -1 := by omega
      obtain rfl : r = q := hr.done.trans HQ.out
      clear hr hiz
      have hq1 : IntKind.u64.wrap ((r : Int) + 1) = ((r + 1 : Nat) : Int) := by rw [IntKind.wrap_u64]; omega
      have hq1' : ((r : Int) + 1) = ((r + 1 : Nat) : Int) := by omega
      obtain ⟨r1, hr1⟩ : ∃ x, r + 1 = x := ⟨_, rfl⟩
      rw [hr1] at hq1 hq1'
      have K1 := Lib.hid (limbs_any r (by omega) wr)
      have K2 := Lib.hid (fun W => limbs_any r1 (by omega) W)
      go_wp2_with fail
      refine K1.out.mono ?_
      rintro e w1 ⟨a1, c1, l1, rfl, u1, v1, g1, n1, b1⟩
      have U1 := Lib.hid u1
      have V1 := Lib.hid v1
      have G1 := Lib.hid g1
      have N1 := Lib.hid n1
      have B1 := Lib.hid (BEL.out.trans (b1.mono sz))
      have sz1 := B1.out.size
      obtain ⟨m1, hm1⟩ : ∃ m, l1.length = m := ⟨_, rfl⟩
      have HM1 := Lib.hid hm1
      rw [hm1]
      clear u1 v1 g1 n1 b1 hm1 K1 BEL
      go_wp2_with fail
      refine (K2.out _).mono ?_
      rintro e w2 ⟨a2, c2, l2, rfl, u2, v2, g2, n2, b2⟩
      have KM := mul_any a1 a2 c1 c2 l1 l2 w2 (U1.out.below b2) u2 G1.out g2 N1.out n2
      rw [V1.out, v2, HM1.out] at KM
      obtain ⟨m2, hm2⟩ : ∃ m, l2.length = m := ⟨_, rfl⟩
      rw [hm2] at KM ⊢
      have KM := Lib.hid KM
      have B2 := Lib.hid (B1.out.trans (b2.mono sz1))
      have sz2 := B2.out.size
      clear u2 v2 g2 n2 b2 hm2 U1 V1 G1 N1 HM1 B1 K2
      go_wp2_with fail
      refine KM.out.mono ?_
      rintro e w3 ⟨c3, l3, a3, rfl, u3, v3, nm3, n3, b3⟩
      have B3 := Lib.hid (B2.out.trans (b3.mono sz2))
      have KC := rcmp_any a a3 c c3 l l3 w3 (HAT.out.below B3.out) u3 HNM.out nm3 (by rw [HM.out]; exact hl) n3
      rw [v3, HV.out, HM.out] at KC
      obtain ⟨m3, hm3⟩ : ∃ m, l3.length = m := ⟨_, rfl⟩
      rw [hm3] at KC ⊢
      obtain ⟨cv, hcv⟩ : ∃ z, cmpV n (r * r1) = z := ⟨_, rfl⟩
      rw [hcv] at KC
      have KC := Lib.hid KC
      have sz3 := B3.out.size
      clear u3 v3 nm3 n3 b3 hm3 KM B2 hcv
      go_wp2_with fail
      refine KC.out.mono ?_
      rintro e w4 ⟨rfl, b4⟩
      have B4 := Lib.hid (B3.out.trans (b4.mono sz3))
      have sz4 := B4.out.size
      clear b4 KC B3
      have K1 := Lib.hid (limbs_any r (by omega) w4)
      have K2 := Lib.hid (fun W => limbs_any r (by omega) W)
      cases hgt : decide (0 < cv)
      · have p1 : ¬ 0 < cv := of_decide_eq_false hgt
        go_wp2_with fail
        refine K1.out.mono ?_
        rintro e w5 ⟨a1, c1, l1, rfl, u1, v1, g1, n1, b1⟩
        have U1 := Lib.hid u1
        have V1 := Lib.hid v1
        have G1 := Lib.hid g1
        have N1 := Lib.hid n1
        have B1 := Lib.hid (B4.out.trans (b1.mono sz4))
        have sz5 := B1.out.size
        obtain ⟨m4, hm1⟩ : ∃ m, l1.length = m := ⟨_, rfl⟩
        have HM1 := Lib.hid hm1
        rw [hm1]
        clear u1 v1 g1 n1 b1 hm1 K1 B4
        go_wp2_with fail
        refine (K2.out _).mono ?_
        rintro e w6 ⟨a2, c2, l2, rfl, u2, v2, g2, n2, b2⟩
        have KM := mul_any a1 a2 c1 c2 l1 l2 w6 (U1.out.below b2) u2 G1.out g2 N1.out n2
        rw [V1.out, v2, HM1.out] at KM
        obtain ⟨m5, hm2⟩ : ∃ m, l2.length = m := ⟨_, rfl⟩
        rw [hm2] at KM ⊢
        have KM := Lib.hid KM
        have B2 := Lib.hid (B1.out.trans (b2.mono sz5))
        have sz6 := B2.out.size
        clear u2 v2 g2 n2 b2 hm2 U1 V1 G1 N1 HM1 B1 K2
        go_wp2_with fail
        refine KM.out.mono ?_
        rintro e w7 ⟨c3, l3, a3, rfl, u3, v3, nm3, n3, b3⟩
        have B3 := Lib.hid (B2.out.trans (b3.mono sz6))
        have KC := rcmp_any a3 a c3 c l3 l w7 u3 (HAT.out.below B3.out) nm3 HNM.out n3 (by rw [HM.out]; exact hl)
        rw [v3, HV.out, HM.out] at KC
        obtain ⟨m6, hm3⟩ : ∃ m, l3.length = m := ⟨_, rfl⟩
        rw [hm3] at KC ⊢
        obtain ⟨cu, hcu⟩ : ∃ z, cmpV (r * r) n = z := ⟨_, rfl⟩
        rw [hcu] at KC
        have HEQ := Lib.hid (show (cu == 0) = decide (r * r = n) by rw [← hcu]; exact cmpV_eqN)
        have KC := Lib.hid KC
        have sz7 := B3.out.size
        clear u3 v3 nm3 n3 b3 hm3 KM B2 hcu
        go_wp2_with fail
        refine KC.out.mono ?_
        rintro e w8 ⟨rfl, b4⟩
        have B5 := Lib.hid (B3.out.trans (b4.mono sz7))
        clear b4 KC B3
        go_wp2_with fail
        rw [HEQ.out]
        (try simp only [Exit.inBlock, Exit.then])
        refine bodyPost_ret (results_tmp3 rfl _ _) rfl ?_
        exact ⟨_, rfl, B5.out⟩
      · have p1 : 0 < cv := of_decide_eq_true hgt
        go_wp2_with fail
        refine K1.out.mono ?_
        rintro e w5 ⟨a1, c1, l1, rfl, u1, v1, g1, n1, b1⟩
        have U1 := Lib.hid u1
        have V1 := Lib.hid v1
        have G1 := Lib.hid g1
        have N1 := Lib.hid n1
        have B1 := Lib.hid (B4.out.trans (b1.mono sz4))
        have sz5 := B1.out.size
        obtain ⟨m4, hm1⟩ : ∃ m, l1.length = m := ⟨_, rfl⟩
        have HM1 := Lib.hid hm1
        rw [hm1]
        clear u1 v1 g1 n1 b1 hm1 K1 B4
        go_wp2_with fail
        refine (K2.out _).mono ?_
        rintro e w6 ⟨a2, c2, l2, rfl, u2, v2, g2, n2, b2⟩
        have KM := mul_any a1 a2 c1 c2 l1 l2 w6 (U1.out.below b2) u2 G1.out g2 N1.out n2
        rw [V1.out, v2, HM1.out] at KM
        obtain ⟨m5, hm2⟩ : ∃ m, l2.length = m := ⟨_, rfl⟩
        rw [hm2] at KM ⊢
        have KM := Lib.hid KM
        have B2 := Lib.hid (B1.out.trans (b2.mono sz5))
        have sz6 := B2.out.size
        clear u2 v2 g2 n2 b2 hm2 U1 V1 G1 N1 HM1 B1 K2
        go_wp2_with fail
        refine KM.out.mono ?_
        rintro e w7 ⟨c3, l3, a3, rfl, u3, v3, nm3, n3, b3⟩
        have B3 := Lib.hid (B2.out.trans (b3.mono sz6))
        have KC := rcmp_any a3 a c3 c l3 l w7 u3 (HAT.out.below B3.out) nm3 HNM.out n3 (by rw [HM.out]; exact hl)
        rw [v3, HV.out, HM.out] at KC
        obtain ⟨m6, hm3⟩ : ∃ m, l3.length = m := ⟨_, rfl⟩
        rw [hm3] at KC ⊢
        obtain ⟨cu, hcu⟩ : ∃ z, cmpV (r * r) n = z := ⟨_, rfl⟩
        rw [hcu] at KC
        have HEQ := Lib.hid (show (cu == 0) = decide (r * r = n) by rw [← hcu]; exact cmpV_eqN)
        have KC := Lib.hid KC
        have sz7 := B3.out.size
        clear u3 v3 nm3 n3 b3 hm3 KM B2 hcu
        go_wp2_with fail
        refine KC.out.mono ?_
        rintro e w8 ⟨rfl, b4⟩
        have B5 := Lib.hid (B3.out.trans (b4.mono sz7))
        clear b4 KC B3
        go_wp2_with fail
        rw [HEQ.out]
        (try simp only [Exit.inBlock, Exit.then])
        refine bodyPost_ret (results_tmp3 rfl _ _) rfl ?_
        exact ⟨_, rfl, B5.out⟩
    | succ j =>
      obtain rfl : iz = (j : Int) := by omega
      have d0 : decide ((j : Int) ≥ 0) = true := by simp
      have d0' : decide (0 ≤ (j : Int)) = true := by simp
      have j1 : (0 : Int) ≤ (j : Int) := by omega
      have hw : IntKind.u64.wrap (j : Int) = j := by rw [IntKind.wrap_u64]; omega
      clear hiz
      have HRT := Lib.hid hr
      obtain ⟨b, hb2⟩ : ∃ b, 2 ^ j = b := ⟨_, rfl⟩
      have HB2 := Lib.hid hb2
      have hor : r ||| b = r + b := by rw [← hb2]; exact or_bit hr.mod
      have hpos : 0 < b := by rw [← hb2]; exact Nat.pos_of_ne_zero (by simp)
      have htop := hr.top
      rw [Nat.pow_succ, hb2] at htop
      have hpb : (2 : Int) ^ j = (b : Int) := by rw [← hb2]; simp
      have hw2 : IntKind.u64.wrap ((2 : Int) ^ j) = (b : Int) := by rw [hpb, IntKind.wrap_u64]; omega
      obtain ⟨x, hx⟩ : ∃ x, r + b = x := ⟨_, rfl⟩
      have hor2 : bits .or .u64 (r : Int) (b : Int) = (x : Int) := by rw [u64_or_nat r b (by omega) (by omega), hor, hx]
      have HX := Lib.hid hx
      have hxl : x < 18446744073709551616 := by omega
      have KL := Lib.hid (limbs_any x hxl wr)
      clear hr hb2 hor hx hpb htop hpos
      go_wp2_with fail
      refine KL.out.mono ?_
      rintro e w1 ⟨a1, c1, l1, rfl, u1, v1, g1, n1, b1⟩
      have KM := mul_any a1 a1 c1 c1 l1 l1 w1 u1 u1 g1 g1 n1 n1
      rw [v1] at KM
      obtain ⟨m1, hm1⟩ : ∃ m, l1.length = m := ⟨_, rfl⟩
      rw [hm1] at KM ⊢
      have KM := Lib.hid KM
      have B1 := Lib.hid (BEL.out.trans (b1.mono sz))
      have sz1 := B1.out.size
      clear u1 v1 g1 n1 hm1 b1 KL BEL
      go_wp2_with fail
      refine KM.out.mono ?_
      rintro e w2 ⟨c2, l2, a2, rfl, u2, v2, nm2, n2, b2⟩
      have B2 := Lib.hid (B1.out.trans (b2.mono sz1))
      have KC := rcmp_any a2 a c2 c l2 l w2 u2 (HAT.out.below B2.out) nm2 HNM.out n2 (by rw [HM.out]; exact hl)
      rw [v2, HV.out, HM.out] at KC
      obtain ⟨m2, hm2⟩ : ∃ m, l2.length = m := ⟨_, rfl⟩
      rw [hm2] at KC ⊢
      obtain ⟨cv, hcv⟩ : ∃ z, cmpV (x * x) n = z := ⟨_, rfl⟩
      rw [hcv] at KC
      have HCD := Lib.hid (show decide (cv ≤ 0) = decide (x * x ≤ n) by rw [← hcv]; exact cmpV_leN)
      have KC := Lib.hid KC
      have sz2 := B2.out.size
      clear u2 v2 nm2 n2 hm2 b2 KM B1 hcv
      go_wp2_with fail
      refine KC.out.mono ?_
      rintro e w3 ⟨rfl, b3⟩
      have B3 := Lib.hid (B2.out.trans (b3.mono sz2))
      clear b3 KC B2
      by_cases hle : x * x ≤ n
      · have d1 : decide (cv ≤ 0) = true := HCD.out.trans (decide_eq_true hle)
        have p1 : cv ≤ 0 := of_decide_eq_true d1
        have HN := Lib.hid (show RootAt 9223372036854775808 n x j by have := HRT.out.take (by rw [HB2.out, HX.out]; exact hle); rw [HB2.out, HX.out] at this; exact this)
        clear hle
        go_wp2_with fail
        go_roundw
        case rel => exact ⟨j, x, _, by omega, rfl, by go_num, rfl, HN.out, B3.out⟩
        case measure => simp [intOf] <;> omega
      · have d1 : decide (cv ≤ 0) = false := HCD.out.trans (decide_eq_false hle)
        have p1 : ¬ cv ≤ 0 := of_decide_eq_false d1
        have HN := Lib.hid (show RootAt 9223372036854775808 n r j from HRT.out.skip (by rw [HB2.out, HX.out]; exact hle))
        clear hle
        go_wp2_with fail
        go_roundw
        case rel => exact ⟨j, r, _, by omega, rfl, by go_num, rfl, HN.out, B3.out⟩
        case measure => simp [intOf] <;> omega
theorem rright_up (w : World) : Calls Tryz.prog 117 #[.int .i64 1] w fun e w' => e = .returned (.bool true) ∧ w = w' := by
  go_enter Tryz.func117, Tryz.ntmps117
  go_wp2_with fail
  go_ret
  exact ⟨rfl, rfl⟩
theorem rrounded_up (q : Nat) (ex : Bool) (h : Int) (hq : q < 4611686018427387904) (w : World) : Calls Tryz.prog 120 #[.bool false, .int .u64 q, .bool ex, .int .i64 h, .int .i64 1] w fun e w' => e = .returned (.tuple #[.int .i64 ((if ex = true then q else q + 1 : Nat) : Int), .bool true]) ∧ w = w' := by
  have d0 : decide (9223372036854775808 < q) = false := decide_eq_false (by omega)
  have d0' : decide (9223372036854775808 < (q : Int)) = false := decide_eq_false (by omega)
  have d1 : decide (9223372036854775807 < q) = false := decide_eq_false (by omega)
  have d1' : decide (9223372036854775807 < (q : Int)) = false := decide_eq_false (by omega)
  have hw1 : IntKind.i64.wrap (q : Int) = q := by rw [IntKind.wrap_i64]; omega
  obtain ⟨q1, hq1⟩ : ∃ x, q + 1 = x := ⟨_, rfl⟩
  have e1 : (q : Int) + 1 = (q1 : Int) := by omega
  have hw2 : IntKind.u64.wrap (q1 : Int) = q1 := by rw [IntKind.wrap_u64]; omega
  have hw3 : IntKind.i64.wrap (q1 : Int) = q1 := by rw [IntKind.wrap_i64]; omega
  have d2 : decide (9223372036854775807 < q1) = false := decide_eq_false (by omega)
  have d2' : decide (9223372036854775807 < (q1 : Int)) = false := decide_eq_false (by omega)
  rw [hq1]
  clear hq1 hq
  cases ex
  all_goals
    go_enter Tryz.func120, Tryz.ntmps120
    go_wp2_with fail
    go_ret2
    exact ⟨rfl, rfl⟩
theorem rsqrt_up (n : Nat) (hn : n < 281474976710656) (w : World) : Calls Tryz.prog 66 #[.int .i64 n, .int .i64 1] w fun e w' => e = .returned (.tuple #[.int .i64 (upR n), .bool true]) ∧ Below w.heap.size w w' := by
  have KR : Calls Tryz.prog 96 #[.int .i64 n, .int .i64 1, .int .i64 1] w fun e w' => e = .returned (.tuple #[.int .i64 (upR n), .bool true]) ∧ Below w.heap.size w w' := by
    have d0 : decide ((n : Int) < 0) = false := decide_eq_false (by omega)
    have KP := Lib.hid (rproduct_any n 1 hn (by decide) w)
    obtain ⟨q, hq⟩ : ∃ q, isq n = q := ⟨_, rfl⟩
    have hql : q < 16777216 := by rw [← hq]; exact isq_lt (by omega)
    obtain ⟨ex, hex⟩ : ∃ b, decide (q * q = n) = b := ⟨_, rfl⟩
    obtain ⟨res, hres⟩ : ∃ r : Nat, upR n = r := ⟨_, rfl⟩
    have HRES := Lib.hid (show (if ex = true then q else q + 1) = res by
      rw [← hres, ← hex]
      unfold upR
      rw [hq]
      simp)
    rw [hres]
    have HQ := Lib.hid hq
    have HEX := Lib.hid hex
    clear hq hex hres
    go_enter Tryz.func96, Tryz.ntmps96
    go_wp2_with fail
    refine (rright_up _).mono ?_
    rintro e w0 ⟨rfl, rfl⟩
    go_wp2_with fail
    refine KP.out.mono ?_
    rintro e w1 ⟨c1, l1, a1, rfl, u1, v1, nm1, n1, b1⟩
    have KT := rroot_any a1 c1 l1 n w1 u1 (by rw [v1, Nat.mul_one]) nm1 n1 hn
    rw [HQ.out, HEX.out] at KT
    obtain ⟨m, hm⟩ : ∃ m, l1.length = m := ⟨_, rfl⟩
    rw [hm] at KT ⊢
    have KT := Lib.hid KT
    have B1 := Lib.hid b1
    have sz1 := b1.size
    clear u1 v1 nm1 n1 b1 hm KP
    go_wp2_with fail
    refine KT.out.mono ?_
    rintro e w2 ⟨h, rfl, b2⟩
    have B2 := Lib.hid (B1.out.trans (b2.mono sz1))
    have KU := rrounded_up q ex h (by omega) w2
    rw [HRES.out] at KU
    have KU := Lib.hid KU
    clear b2 KT B1
    go_wp2_with fail
    refine KU.out.mono ?_
    rintro e w3 ⟨rfl, rfl⟩
    go_wp2_with fail
    go_ret2
    exact ⟨rfl, B2.out⟩
  have KR := Lib.hid KR
  go_enter Tryz.func66, Tryz.ntmps66
  go_wp2_with fail
  refine KR.out.mono ?_
  rintro e w3 ⟨rfl, b3⟩
  go_wp2_with fail
  go_ret2
  exact ⟨rfl, b3⟩
end Go.Proofs.YtefdjdipbnnoaaaGreatDoor
