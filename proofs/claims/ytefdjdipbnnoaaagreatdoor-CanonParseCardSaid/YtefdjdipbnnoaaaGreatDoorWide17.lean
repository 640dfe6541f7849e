/-
  wide: size, sign, product, compare, Cmp at positive numbers; math/bits.Mul64 by the shelf.
-/
import Derived.Test.YtefdjdipbnnoaaaGreatDoorBuild
import Derived.Test.YtefdjdipbnnoaaaGreatDoorHeldL
import Derived.Test.YtefdjdipbnnoaaaGreatDoorBytes
import Derived.Test.YtefdjdipbnnoaaaGreatDoorTape16
import Derived.Shelf.Bits.Mul64
namespace Go.Proofs.YtefdjdipbnnoaaaGreatDoor
open Go Go.RowKit
set_option linter.unusedVariables false

def mulRen : Go.Shelf.Ren := ⟨fun | 264 => 112 | n => n, fun | 46 => 148 | 53 => 123 | n => n, fun n => n⟩
theorem mulLays : Go.Proofs.Lays.n264 Tryz.prog mulRen := {
  mixed := by kernel_rfl
  f264 := Tryz.func112.trans (congrArg some (by kernel_rfl))
  t46 := Tryz.underlying148
  a46 := Tryz.isAgg148
  z46 := Tryz.sizeOf148
  v46 := Tryz.zeroValue148
  t53 := Tryz.underlying123
  a53 := Tryz.isAgg123
  z53 := Tryz.sizeOf123
  v53 := Tryz.zeroValue123 }
theorem mul64_any (x y : Nat) (hx : x < 18446744073709551616) (hy : y < 18446744073709551616) (w : World) : Calls Tryz.prog 112 #[.int .u64 x, .int .u64 y] w fun e w' =>
    e = .returned (.tuple #[.int .u64 ((x * y / 18446744073709551616 : Nat) : Int), .int .u64 ((x * y % 18446744073709551616 : Nat) : Int)]) ∧ w' = w := Any.bits_Mul64 mulLays x y hx hy w

theorem wsize_any (n : Nat) (h : n ≤ 4611686018427387904) (w : World) : Calls Tryz.prog 157 #[.int .i64 n] w fun e w' => e = .returned (.int .u64 n) ∧ w = w' := by
  have d0 : decide ((n : Int) < 0) = false := decide_eq_false (by omega)
  have hw : IntKind.u64.wrap (n : Int) = n := by rw [IntKind.wrap_u64]; omega
  go_enter Tryz.func157, Tryz.ntmps157
  go_wp2_with fail
  go_ret
  exact ⟨rfl, rfl⟩
theorem wsign_any (a b : Nat) (ha : 1 ≤ a) (hb : 1 ≤ b) (w : World) : Calls Tryz.prog 156 #[.int .i64 a, .int .i64 b] w fun e w' => e = .returned (.int .i64 1) ∧ w = w' := by
  have d0 : ((a : Int) == 0) = false := by simp; omega
  have d1 : ((b : Int) == 0) = false := by simp; omega
  have d2 : decide ((a : Int) < 0) = false := decide_eq_false (by omega)
  have d3 : decide ((b : Int) < 0) = false := decide_eq_false (by omega)
  go_enter Tryz.func156, Tryz.ntmps156
  go_wp2_with fail
  go_ret
  exact ⟨rfl, rfl⟩
theorem wprod_any (x y : Nat) (hx : x < 18446744073709551616) (hy : y < 18446744073709551616) (w : World) : Calls Tryz.prog 141 #[.int .u64 x, .int .u64 y] w fun e w' =>
    e = .returned (.agg #[.int .u64 ((x * y / 18446744073709551616 : Nat) : Int), .int .u64 ((x * y % 18446744073709551616 : Nat) : Int)]) ∧ Below w.heap.size w w' := by
  have K := fun W => mul64_any x y hx hy W
  obtain ⟨h, hh⟩ : ∃ h, x * y / 18446744073709551616 = h := ⟨_, rfl⟩
  obtain ⟨l, hl⟩ : ∃ h, x * y % 18446744073709551616 = h := ⟨_, rfl⟩
  simp only [hh, hl] at K ⊢
  have K := Lib.hid K
  clear hh hl
  go_enter Tryz.func141, Tryz.ntmps141
  go_wp2_with fail
  refine (K.out _).mono ?_
  rintro e w' ⟨rfl, rfl⟩
  go_wp2_with fail
  refine bodyPost_ret (results_cell_row rfl _ _ w.heap.size 125 #[.int .u64 h, .int .u64 l] (0, 0) _ rfl (Blk.new w _ _) Tryz.underlying125 rfl (by kernel_rfl)) rfl ?_
  exact ⟨rfl, (Below.refl _ _).alloc (Nat.le_refl _) _⟩

/-! ### Results that are structs in memory, beside others -/
section
variable {P : Program} {fn : Func} {p q u v : Tmp} {ty ty2 : TypeId} {tmps : Array Value} {w : World} {g g2 : Nat} {t t2 : TypeId} {cs cs2 : Array Value} {fr fr2 : Nat × Nat} {d d2 : TypeDesc}
theorem results_ct (h : fn.results = #[.cell p ty, .tmp u]) (hp : tmps.getD p undef = .pointer (some ⟨g, 0, none⟩)) (hg : w.heap[g]? = some (.cells cs t fr))
    (hu : P.underlying ty = some d) (hd : (match d with | .struct _ | .array _ _ => true | _ => false) = true) (hi : (P.info? ty).map (·.size) = some cs.size) :
    (results fn tmps).run P w = .ok (.tuple #[.agg cs, tmps.getD u undef]) w := by
  have hp' : tmps[p]?.getD undef = .pointer (some ⟨g, 0, none⟩) := by simpa using hp
  simp [results, h, hp', asAddr, run_loadVar_row w g t ty cs fr d hg hu hd hi]
theorem results_ctt (h : fn.results = #[.cell p ty, .tmp u, .tmp v]) (hp : tmps.getD p undef = .pointer (some ⟨g, 0, none⟩)) (hg : w.heap[g]? = some (.cells cs t fr))
    (hu : P.underlying ty = some d) (hd : (match d with | .struct _ | .array _ _ => true | _ => false) = true) (hi : (P.info? ty).map (·.size) = some cs.size) :
    (results fn tmps).run P w = .ok (.tuple #[.agg cs, tmps.getD u undef, tmps.getD v undef]) w := by
  have hp' : tmps[p]?.getD undef = .pointer (some ⟨g, 0, none⟩) := by simpa using hp
  simp [results, h, hp', asAddr, run_loadVar_row w g t ty cs fr d hg hu hd hi]
theorem results_cc (h : fn.results = #[.cell p ty, .cell q ty2]) (hp : tmps.getD p undef = .pointer (some ⟨g, 0, none⟩)) (hg : w.heap[g]? = some (.cells cs t fr))
    (hu : P.underlying ty = some d) (hd : (match d with | .struct _ | .array _ _ => true | _ => false) = true) (hi : (P.info? ty).map (·.size) = some cs.size)
    (hp2 : tmps.getD q undef = .pointer (some ⟨g2, 0, none⟩)) (hg2 : w.heap[g2]? = some (.cells cs2 t2 fr2))
    (hu2 : P.underlying ty2 = some d2) (hd2 : (match d2 with | .struct _ | .array _ _ => true | _ => false) = true) (hi2 : (P.info? ty2).map (·.size) = some cs2.size) :
    (results fn tmps).run P w = .ok (.tuple #[.agg cs, .agg cs2]) w := by
  have hp' : tmps[p]?.getD undef = .pointer (some ⟨g, 0, none⟩) := by simpa using hp
  have hp2' : tmps[q]?.getD undef = .pointer (some ⟨g2, 0, none⟩) := by simpa using hp2
  simp [results, h, hp', hp2', asAddr, run_loadVar_row w g t ty cs fr d hg hu hd hi, run_loadVar_row w g2 t2 ty2 cs2 fr2 d2 hg2 hu2 hd2 hi2]
theorem results_cctt (h : fn.results = #[.cell p ty, .cell q ty2, .tmp u, .tmp v]) (hp : tmps.getD p undef = .pointer (some ⟨g, 0, none⟩)) (hg : w.heap[g]? = some (.cells cs t fr))
    (hu : P.underlying ty = some d) (hd : (match d with | .struct _ | .array _ _ => true | _ => false) = true) (hi : (P.info? ty).map (·.size) = some cs.size)
    (hp2 : tmps.getD q undef = .pointer (some ⟨g2, 0, none⟩)) (hg2 : w.heap[g2]? = some (.cells cs2 t2 fr2))
    (hu2 : P.underlying ty2 = some d2) (hd2 : (match d2 with | .struct _ | .array _ _ => true | _ => false) = true) (hi2 : (P.info? ty2).map (·.size) = some cs2.size) :
    (results fn tmps).run P w = .ok (.tuple #[.agg cs, .agg cs2, tmps.getD u undef, tmps.getD v undef]) w := by
  have hp' : tmps[p]?.getD undef = .pointer (some ⟨g, 0, none⟩) := by simpa using hp
  have hp2' : tmps[q]?.getD undef = .pointer (some ⟨g2, 0, none⟩) := by simpa using hp2
  simp [results, h, hp', hp2', asAddr, run_loadVar_row w g t ty cs fr d hg hu hd hi, run_loadVar_row w g2 t2 ty2 cs2 fr2 d2 hg2 hu2 hd2 hi2]
end

def cmpV (x y : Nat) : Int := if x < y then -1 else if x = y then 0 else 1
theorem cmpV_bd (x y : Nat) : cmpV x y = -1 ∨ cmpV x y = 0 ∨ cmpV x y = 1 := by unfold cmpV; split <;> (try split) <;> simp
theorem wcompare_any (ph pl qh ql : Nat) (h2 : pl < 18446744073709551616) (h4 : ql < 18446744073709551616) (w : World) :
    Calls Tryz.prog 140 #[.agg #[.int .u64 ph, .int .u64 pl], .agg #[.int .u64 qh, .int .u64 ql]] w fun e w' => e = .returned (.int .i64 (cmpV (ph * 18446744073709551616 + pl) (qh * 18446744073709551616 + ql))) ∧ Below w.heap.size w w' := by
  have BEL := Lib.hid (((Below.refl w.heap.size w).alloc (Nat.le_refl _) (.cells #[.int .u64 ph, .int .u64 pl] 125)).alloc (by simp) (.cells #[.int .u64 qh, .int .u64 ql] 125))
  rcases Nat.lt_trichotomy ph qh with h | h | h
  · have e : cmpV (ph * 18446744073709551616 + pl) (qh * 18446744073709551616 + ql) = -1 := by unfold cmpV; rw [if_pos (by omega)]
    rw [e]
    have d0 : decide ((ph : Int) < qh) = true := decide_eq_true (by omega)
    have d0' : decide (ph < qh) = true := decide_eq_true (by omega)
    clear e h
    go_enter Tryz.func140, Tryz.ntmps140
    go_wp2_with fail
    go_ret
    exact ⟨rfl, BEL.out⟩
  · subst h
    rcases Nat.lt_trichotomy pl ql with h | h | h
    · have e : cmpV (ph * 18446744073709551616 + pl) (ph * 18446744073709551616 + ql) = -1 := by unfold cmpV; rw [if_pos (by omega)]
      rw [e]
      have d0 : decide ((pl : Int) < ql) = true := decide_eq_true (by omega)
      have d0' : decide (pl < ql) = true := decide_eq_true (by omega)
      clear e h
      go_enter Tryz.func140, Tryz.ntmps140
      go_wp2_with fail
      go_ret
      exact ⟨rfl, BEL.out⟩
    · subst h
      have e : cmpV (ph * 18446744073709551616 + pl) (ph * 18446744073709551616 + pl) = 0 := by unfold cmpV; rw [if_neg (by omega), if_pos rfl]
      rw [e]
      clear e
      go_enter Tryz.func140, Tryz.ntmps140
      go_wp2_with fail
      go_ret
      exact ⟨rfl, BEL.out⟩
    · have e : cmpV (ph * 18446744073709551616 + pl) (ph * 18446744073709551616 + ql) = 1 := by unfold cmpV; rw [if_neg (by omega), if_neg (by omega)]
      rw [e]
      have d0 : decide ((pl : Int) < ql) = false := decide_eq_false (by omega)
      have d0' : decide (pl < ql) = false := decide_eq_false (by omega)
      have d1 : ((pl : Int) == ql) = false := by simp; omega
      have d2 : decide (pl = ql) = false := decide_eq_false (by omega)
      have d3 : decide ((pl : Int) = ql) = false := decide_eq_false (by omega)
      clear e h
      go_enter Tryz.func140, Tryz.ntmps140
      go_wp2_with fail
      go_ret
      exact ⟨rfl, BEL.out⟩
  · have e : cmpV (ph * 18446744073709551616 + pl) (qh * 18446744073709551616 + ql) = 1 := by unfold cmpV; rw [if_neg (by omega), if_neg (by omega)]
    rw [e]
    have d0 : decide ((ph : Int) < qh) = false := decide_eq_false (by omega)
    have d0' : decide (ph < qh) = false := decide_eq_false (by omega)
    have d1 : ((ph : Int) == qh) = false := by simp; omega
    have d2 : decide (ph = qh) = false := decide_eq_false (by omega)
    have d3 : decide ((ph : Int) = qh) = false := decide_eq_false (by omega)
    clear e h
    go_enter Tryz.func140, Tryz.ntmps140
    go_wp2_with fail
    go_ret
    exact ⟨rfl, BEL.out⟩
theorem wcmp_any (a b c d : Nat) (ha : 1 ≤ a ∧ a ≤ 4611686018427387904) (hb : 1 ≤ b ∧ b ≤ 4611686018427387904) (hc : 1 ≤ c ∧ c ≤ 4611686018427387904) (hd : 1 ≤ d ∧ d ≤ 4611686018427387904) (w : World) :
    Calls Tryz.prog 139 #[.int .i64 a, .int .i64 b, .int .i64 c, .int .i64 d] w fun e w' => e = .returned (.int .i64 (cmpV (a * b) (c * d))) ∧ Below w.heap.size w w' := by
  have S1 := Lib.hid (fun W => wsign_any a b ha.1 hb.1 W)
  have S2 := Lib.hid (fun W => wsign_any c d hc.1 hd.1 W)
  have ZA := Lib.hid (fun W => wsize_any a ha.2 W)
  have ZB := Lib.hid (fun W => wsize_any b hb.2 W)
  have ZC := Lib.hid (fun W => wsize_any c hc.2 W)
  have ZD := Lib.hid (fun W => wsize_any d hd.2 W)
  have P1 := Lib.hid (fun W => wprod_any a b (by omega) (by omega) W)
  have P2 := Lib.hid (fun W => wprod_any c d (by omega) (by omega) W)
  have C := fun W => wcompare_any (a * b / 18446744073709551616) (a * b % 18446744073709551616) (c * d / 18446744073709551616) (c * d % 18446744073709551616) (Nat.mod_lt _ (by decide)) (Nat.mod_lt _ (by decide)) W
  simp only [Nat.div_add_mod'] at C
  have C := Lib.hid C
  have hb0 := cmpV_bd (a * b) (c * d)
  obtain ⟨z, hz⟩ : ∃ z, cmpV (a * b) (c * d) = z := ⟨_, rfl⟩
  obtain ⟨x1, e1⟩ : ∃ z, a * b / 18446744073709551616 = z := ⟨_, rfl⟩
  obtain ⟨x2, e2⟩ : ∃ z, a * b % 18446744073709551616 = z := ⟨_, rfl⟩
  obtain ⟨x3, e3⟩ : ∃ z, c * d / 18446744073709551616 = z := ⟨_, rfl⟩
  obtain ⟨x4, e4⟩ : ∃ z, c * d % 18446744073709551616 = z := ⟨_, rfl⟩
  rw [hz] at C hb0 ⊢
  rw [e1, e2] at C P1
  rw [e3, e4] at C P2
  have hw : IntKind.i64.wrap z = z := by rw [IntKind.wrap_i64]; omega
  clear hz e1 e2 e3 e4 hb0 ha hb hc hd
  go_enter Tryz.func139, Tryz.ntmps139
  go_wp2_with fail
  refine (S1.out _).mono ?_
  rintro e w' ⟨rfl, rfl⟩
  go_wp2_with fail
  refine (S2.out _).mono ?_
  rintro e w' ⟨rfl, rfl⟩
  go_wp2_with fail
  refine (ZA.out _).mono ?_
  rintro e w' ⟨rfl, rfl⟩
  go_wp2_with fail
  refine (ZB.out _).mono ?_
  rintro e w' ⟨rfl, rfl⟩
  go_wp2_with fail
  refine (P1.out _).mono ?_
  rintro e w1 ⟨rfl, b1⟩
  go_wp2_with fail
  refine (ZC.out _).mono ?_
  rintro e w' ⟨rfl, rfl⟩
  go_wp2_with fail
  refine (ZD.out _).mono ?_
  rintro e w' ⟨rfl, rfl⟩
  go_wp2_with fail
  refine (P2.out _).mono ?_
  rintro e w2 ⟨rfl, b2⟩
  go_wp2_with fail
  refine (C.out _).mono ?_
  rintro e w3 ⟨rfl, b3⟩
  go_wp2_with fail
  go_ret
  exact ⟨rfl, (b1.trans (b2.mono b1.size)).trans (b3.mono (Nat.le_trans b1.size b2.size))⟩
end Go.Proofs.YtefdjdipbnnoaaaGreatDoor
