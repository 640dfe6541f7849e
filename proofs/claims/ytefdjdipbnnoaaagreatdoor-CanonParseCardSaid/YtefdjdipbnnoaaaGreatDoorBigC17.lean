/-
  Plain: numbers in digits to the base 65536, and what the loops of cncref01 make of them.
  cncref01: limbs, cut, mul, cmp, product, Cmp: numbers below 2^44 and their products.
  cncref01: cmp, mag, sign, product, Cmp: positive numbers below 2^44.
-/
import Derived.Test.YtefdjdipbnnoaaaGreatDoorWide17
import Derived.Laws.OwnMore
import Derived.WalkMore
namespace Go.Proofs.YtefdjdipbnnoaaaGreatDoor
open Go
set_option linter.unusedVariables false

def lval : List Nat → Nat
  | [] => 0
  | d :: l => d + 65536 * lval l
def Digs (l : List Nat) : Prop := ∀ (i d : Nat), l[i]? = some d → d < 65536
def Norm (l : List Nat) : Prop := Digs l ∧ ∀ d, l[l.length - 1]? = some d → d ≠ 0
theorem Digs.tail {d : Nat} {l : List Nat} (h : Digs (d :: l)) : Digs l := fun i x hx => h (i + 1) x (by simpa using hx)
theorem lval_append : ∀ (a b : List Nat), lval (a ++ b) = lval a + 65536 ^ a.length * lval b
  | [], b => by simp [lval]
  | d :: a, b => by
    rw [List.cons_append]
    simp only [lval, List.length_cons, Nat.pow_succ]
    rw [lval_append a b]
    grind
theorem lval_lt : ∀ (l : List Nat), Digs l → lval l < 65536 ^ l.length
  | [], _ => by simp [lval]
  | d :: l, h => by
    have h1 := lval_lt l h.tail
    have h2 := h 0 d rfl
    simp only [lval, List.length_cons, Nat.pow_succ]
    omega
theorem lval_ge : ∀ (l : List Nat) (k : Nat), Norm l → l.length = k + 1 → 65536 ^ k ≤ lval l
  | [], k, _, h => by simp at h
  | [d], k, h, hk => by
    simp at hk
    subst hk
    have := h.2 d (by simp)
    simp only [lval]
    omega
  | d :: e :: l, k, h, hk => by
    obtain ⟨k, rfl⟩ : ∃ j, k = j + 1 := ⟨l.length, by simp at hk; omega⟩
    have h1 := lval_ge (e :: l) k ⟨h.1.tail, fun x hx => h.2 x (by simpa using hx)⟩ (by simp at hk ⊢; omega)
    rw [lval, Nat.pow_succ]
    omega
theorem lval_len_lt {a b : List Nat} (ha : Digs a) (hb : Norm b) (h : a.length < b.length) : lval a < lval b := by
  have h1 := lval_lt a ha
  have h2 := lval_ge b (b.length - 1) hb (by omega)
  have h3 : 65536 ^ a.length ≤ 65536 ^ (b.length - 1) := Nat.pow_le_pow_right (by decide) (by omega)
  omega
/-- The highest digit that differs decides. -/
theorem lval_at : ∀ (i : Nat) (a b : List Nat) (x y : Nat), Digs a → a.length = b.length → (∀ j, i < j → a[j]? = b[j]?) → a[i]? = some x → b[i]? = some y → x < y → lval a < lval b
  | i, [], b, x, y, _, _, _, hx, _, _ => by simp at hx
  | i, d :: a, [], x, y, _, hl, _, _, _, _ => by simp at hl
  | 0, d :: a, e :: b, x, y, _, hl, hj, hx, hy, hxy => by
    simp at hx hy hl
    have : a = b := List.ext_getElem? fun j => by simpa using hj (j + 1) (by omega)
    subst this
    simp only [lval]
    omega
  | i + 1, d :: a, e :: b, x, y, h, hl, hj, hx, hy, hxy => by
    have h1 := lval_at i a b x y h.tail (by simpa using hl) (fun j hj' => by simpa using hj (j + 1) (by omega)) (by simpa using hx) (by simpa using hy) hxy
    have h2 := h 0 d rfl
    simp only [lval]
    omega
theorem lval_set : ∀ (l : List Nat) (j x y : Nat), l[j]? = some y → lval (l.set j x) + 65536 ^ j * y = lval l + 65536 ^ j * x
  | [], j, x, y, h => by simp at h
  | d :: l, 0, x, y, h => by
    simp at h
    subst h
    simp only [List.set_cons_zero, lval, Nat.pow_zero]
    omega
  | d :: l, j + 1, x, y, h => by
    have h1 := lval_set l j x y (by simpa using h)
    simp only [List.set_cons_succ, lval, Nat.pow_succ]
    grind
theorem digs_set {l : List Nat} {j x : Nat} (h : Digs l) (hx : x < 65536) : Digs (l.set j x) := by
  intro i d hd
  rw [List.getElem?_set] at hd
  split at hd
  · split at hd
    · simp at hd; omega
    · simp at hd
  · exact h i d hd
theorem lval_take (l : List Nat) (k x : Nat) (h : l[k]? = some x) : lval (l.take (k + 1)) = lval (l.take k) + 65536 ^ k * x := by
  have hk : k < l.length := (List.getElem?_eq_some_iff.1 h).1
  have e : l.take (k + 1) = l.take k ++ [x] := by rw [List.take_add_one, h]; rfl
  rw [e, lval_append, List.length_take, Nat.min_eq_left (by omega)]
  simp [lval]
/-- One step of the inner loop. -/
theorem mul_step (o b : List Nat) (i k c V ai bk y : Nat) (hI : lval o + c * 65536 ^ (i + k) = V + ai * lval (b.take k) * 65536 ^ i) (hb : b[k]? = some bk) (hy : o[i + k]? = some y) :
    lval (o.set (i + k) ((y + ai * bk + c) % 65536)) + (y + ai * bk + c) / 65536 * 65536 ^ (i + (k + 1)) = V + ai * lval (b.take (k + 1)) * 65536 ^ i := by
  have h1 := lval_set o (i + k) ((y + ai * bk + c) % 65536) y hy
  have h2 := lval_take b k bk hb
  have h3 := Nat.div_add_mod (y + ai * bk + c) 65536
  generalize (y + ai * bk + c) % 65536 = r at *
  generalize (y + ai * bk + c) / 65536 = q at *
  rw [h2]
  have e1 : 65536 ^ (i + k) = 65536 ^ i * 65536 ^ k := Nat.pow_add ..
  have e2 : 65536 ^ (i + (k + 1)) = 65536 ^ i * 65536 ^ k * 65536 := by rw [show i + (k + 1) = i + k + 1 by omega, Nat.pow_succ, e1]
  rw [e1] at h1 hI
  rw [e2]
  generalize 65536 ^ i = A at *
  generalize 65536 ^ k = B at *
  generalize lval (o.set (i + k) r) = L1 at *
  generalize lval o = L0 at *
  generalize lval (b.take k) = M at *
  have h4 : A * B * (65536 * q + r) = A * B * (y + ai * bk + c) := by rw [h3]
  grind
theorem v_bd {y a b c : Nat} (hy : y < 65536) (ha : a < 65536) (hb : b < 65536) (hc : c < 65536) : a * b ≤ 4294836225 ∧ y + a * b + c < 4294967296 ∧ (y + a * b + c) / 65536 < 65536 := by
  have h : a * b ≤ 65535 * 65535 := Nat.mul_le_mul (by omega) (by omega)
  omega
/-- The row behind the last digit of b. -/
theorem mul_end (o b : List Nat) (i c V ai : Nat) (hI : lval o + c * 65536 ^ (i + b.length) = V + ai * lval (b.take b.length) * 65536 ^ i) (hy : o[i + b.length]? = some 0) :
    lval (o.set (i + b.length) c) = V + ai * lval b * 65536 ^ i := by
  have h1 := lval_set o (i + b.length) c 0 hy
  rw [List.take_length] at hI
  rw [← hI]
  rw [Nat.mul_zero, Nat.add_zero] at h1
  rw [h1, Nat.mul_comm c]
theorem cut_step {l : List Nat} (h : l[l.length - 1]? = some 0) : lval (l.take (l.length - 1)) = lval l := by
  have hk := (List.getElem?_eq_some_iff.1 h).1
  have := lval_take l (l.length - 1) 0 h
  rw [show l.length - 1 + 1 = l.length by omega, List.take_length] at this
  omega
theorem digs_take {l : List Nat} (h : Digs l) (k : Nat) : Digs (l.take k) := by
  intro i d hd
  rw [List.getElem?_take] at hd
  split at hd
  · exact h i d hd
  · simp at hd
theorem lval_zeros (n : Nat) : lval (List.replicate n 0) = 0 := by
  induction n with
  | zero => rfl
  | succ n ih => rw [List.replicate_succ, lval, ih]
end Go.Proofs.YtefdjdipbnnoaaaGreatDoor

namespace Go.Proofs.YtefdjdipbnnoaaaGreatDoor
open Go Go.RowKit
set_option linter.unusedVariables false

def u64C (l : List Nat) : List Value := l.map fun (d : Nat) => Value.int .u64 (d : Int)
/-- Digits where a slice leads. -/
def U64At (w : World) (a : Option Addr) (l : List Nat) : Prop := ∀ (j x : Nat), l[j]? = some x → ∃ b o, a = some ⟨b, o, none⟩ ∧ b < w.heap.size ∧ w.cell? ⟨b, o + j, none⟩ = some (.int .u64 (x : Int))
theorem U64At.below {w w' : World} {a : Option Addr} {l : List Nat} (h : U64At w a l) (hb : Below w.heap.size w w') : U64At w' a l := fun j x hx => by
  obtain ⟨b, o, e, hl, hc⟩ := h j x hx
  exact ⟨b, o, e, by have := hb.size; omega, (hb.cell (p := ⟨b, o + j, none⟩) hl).trans hc⟩
theorem U64At.take {w : World} {a : Option Addr} {l : List Nat} (h : U64At w a l) (k : Nat) : U64At w a (l.take k) := fun j x hx => h j x (by
  rw [List.getElem?_take] at hx
  split at hx
  · exact hx
  · simp at hx)
theorem u64_own {W : World} {base : Nat} {v : Value} {l : List Nat} (h : W.ownsRow base 123 1 v l.length (u64C l)) : ∃ a c, v = .slice a l.length c ∧ U64At W a l := by
  rcases h.2 with ⟨rfl, e⟩ | ⟨g, cap, cur, rfl, hb, _⟩
  · refine ⟨none, 0, by rw [e], fun i t hi => ?_⟩
    have := (List.getElem?_eq_some_iff.1 hi).1
    omega
  · refine ⟨_, _, rfl, fun i t hi => ⟨g, 0, rfl, (h.lt g rfl).2, ?_⟩⟩
    have hlt := (List.getElem?_eq_some_iff.1 hi).1
    rw [h.cellAt _ (by omega)]
    simp [u64C, hi]
theorem infoU : (Tryz.prog.info? 123).map (fun i => (i.zero, i.size, i.bytes)) = some (some (.int .u64 0), 1, 8) := by kernel_rfl

set_option maxRecDepth 100000 in
set_option maxHeartbeats 1000000 in
theorem limbs_any (n0 : Nat) (hn : n0 < 18446744073709551616) (w : World) : Calls Tryz.prog 142 #[.int .u64 n0] w fun e w' => ∃ a c l, e = .returned (.slice a l.length c) ∧ U64At w' a l ∧ lval l = n0 ∧ Digs l ∧ l.length ≤ 4 ∧ Below w.heap.size w w' := by
  obtain ⟨i0, hi, hz0, hz1, hz2⟩ := info_parts infoU
  go_enter Tryz.func142, Tryz.ntmps142
  go_wp2
  go_loopw [0, 3] (fun s0 s3 wr => ∃ (n : Nat) (l : List Nat), s0 = .int .u64 n ∧ Hid (lval l + n * 65536 ^ l.length = n0) ∧ l.length ≤ 4 ∧ n < 18446744073709551616 ∧ Hid (Digs l) ∧ wr.ownsRow w.heap.size 123 1 s3 l.length (u64C l) ∧ Below w.heap.size w wr)
    (fun s0 _ _ => (intOf s0).toNat)
  case atStart => exact ⟨n0, [], rfl, Lib.hid (by simp [lval]), by simp, hn, Lib.hid (fun i d h => by simp at h), World.ownsRow_nil _ _ _ _, Below.refl _ _⟩
  case round =>
    obtain ⟨n, l, rfl, hv, hl, hn48, hD, own, bel⟩ := hrel
    have hsz := bel.size
    by_cases h0 : 0 < n
    · have d1 : decide (0 < n) = true := decide_eq_true h0
      have d1' : decide ((0 : Int) < (n : Int)) = true := decide_eq_true (by omega)
      have hl2 : l.length ≤ 3 := by
        have hv := hv.out
        rcases Nat.lt_or_ge l.length 4 with h | h
        · omega
        · have : l.length = 4 := by omega
          rw [this] at hv
          have : n * 65536 ^ 4 = n * 18446744073709551616 := by rfl
          omega
      have ha : bits .and .u64 (n : Int) 65535 = ((n % 65536 : Nat) : Int) := by
        have h := bits_and_u64_nat n 65535 (by omega) (by omega)
        rw [show n &&& 65535 = n % 65536 from Nat.and_two_pow_sub_one_eq_mod n 16] at h
        exact h
      have hq : (n : Int) / 65536 = ((n / 65536 : Nat) : Int) := by omega
      obtain ⟨d, hd⟩ : ∃ d, n % 65536 = d := ⟨_, rfl⟩
      obtain ⟨q, hqq⟩ : ∃ d, n / 65536 = d := ⟨_, rfl⟩
      have HV2 : Hid (lval (l ++ [d]) + q * 65536 ^ (l ++ [d]).length = n0) := Lib.hid (by
        rw [← hv.out, lval_append]
        have h := Nat.div_add_mod n 65536
        rw [hd, hqq] at h
        simp only [List.length_append, List.length_singleton, Nat.pow_succ, lval]
        generalize 65536 ^ l.length = A
        rw [← h]
        grind)
      have HD2 : Hid (Digs (l ++ [d])) := Lib.hid (by
        intro i x hx
        rw [List.getElem?_append] at hx
        split at hx
        · exact hD.out i x hx
        · have : x ∈ [d] := List.mem_of_getElem? hx
          simp at this
          omega)
      have hq2 : q < n := by omega
      rw [hd] at ha
      rw [hqq] at hq
      have HA := Lib.hid ha
      have e3 : u64C (l ++ [d]) = u64C l ++ [.int .u64 (d : Int)] := by simp [u64C]
      have E3 := Lib.hid e3
      clear hv hd hqq HA hD e3
      obtain ⟨m, hm⟩ : ∃ m, l.length = m := ⟨_, rfl⟩
      obtain ⟨cs, hcs⟩ : ∃ m, u64C l = m := ⟨_, rfl⟩
      rw [hm, hcs] at own
      have HM := Lib.hid hm
      have HCS := Lib.hid hcs
      rw [hm] at hl2 hl
      clear hm hcs
      go_wp2_with (at_builtin; refine wpList_append_own _ rfl (.tmp 6) (.tmp 9) 144 rfl w.heap.size 123 i0 (.int .u64 0) 1 8 Tryz.underlying144 hi hz0 hz1 hz2 rfl (by decide) _ _ _ rfl (own.alloc _) ⟨wr.heap.size, 0, none⟩ 1 1 [.int .u64 d] rfl rfl (cell_one_at _ _ _ _ rfl) (by simp [Value.oneCell']) (by unfold maxLen; omega) (by omega) (by simp; omega) ?_)
      intro v' w1 own' hgrow _
      have bel1 : Below w.heap.size w w1 := (bel.alloc hsz (.cells #[.int .u64 d] 123)).grown hgrow (by simp; omega) (fun k e => (own.lt k e).1)
      have own2 : w1.ownsRow w.heap.size 123 1 v' (l ++ [d]).length (u64C (l ++ [d])) := by rw [E3.out, HCS.out, List.length_append, HM.out]; simpa using own'
      clear own own' hgrow bel hsz
      go_wp2_with fail
      go_roundw
      case rel => exact ⟨q, l ++ [d], by go_num, HV2, by simp; have := HM.out; omega, by omega, HD2, own2, bel1⟩
      case measure => simp [intOf]; omega
    · obtain rfl : n = 0 := by omega
      obtain ⟨a, c, rfl, hat⟩ := u64_own own
      have HAT := Lib.hid hat
      have hvv : lval l = n0 := by have := hv.out; simpa using this
      have HVV := Lib.hid hvv
      clear own hv hat hvv
      go_wp2_with fail
      go_ret
      exact ⟨a, c, l, rfl, HAT.out, HVV.out, hD.out, hl, bel⟩

set_option maxRecDepth 100000 in
set_option maxHeartbeats 1000000 in
theorem cut_any (a : Option Addr) (c : Nat) (l : List Nat) (w : World) (hat : U64At w a l) (hl : l.length ≤ 100) (hc : l.length ≤ c) (hc2 : c ≤ 1000) : Calls Tryz.prog 158 #[.slice a l.length c] w fun e w' => ∃ k, e = .returned (.slice a (l.take k).length c) ∧ lval (l.take k) = lval l ∧ (∀ d, (l.take k)[(l.take k).length - 1]? = some d → d ≠ 0) ∧ k ≤ l.length ∧ Below w.heap.size w w' := by
  obtain ⟨n, hn⟩ : ∃ n, l.length = n := ⟨_, rfl⟩
  have HN := Lib.hid hn
  have HAT := Lib.hid hat
  rw [hn] at hl hc ⊢
  clear hn hat
  go_enter Tryz.func158, Tryz.ntmps158
  go_wp2
  go_loopw [0] (fun s0 wr => ∃ m q : Nat, m ≤ n ∧ s0 = .slice a m c ∧ Hid (lval (l.take m) = lval l) ∧ wr = w.drewN q) (fun s0 _ => match s0 with | .slice _ m _ => m | _ => 0)
  case atStart => exact ⟨n, 0, Nat.le_refl _, rfl, Lib.hid (by rw [← HN.out, List.take_length]), rfl⟩
  case round =>
    obtain ⟨m, q, hm, rfl, HV, rfl⟩ := hrel
    have belq : Below w.heap.size w (w.drewN q) := below_drewN (Below.refl _ _) q
    have hlm : (l.take m).length = m := by rw [List.length_take, HN.out]; omega
    by_cases h0 : 0 < m
    · have d1 : decide (0 < m) = true := decide_eq_true h0
      have d1' : decide ((0 : Int) < (m : Int)) = true := decide_eq_true (by omega)
      obtain ⟨x, hx⟩ : ∃ x, l[m - 1]? = some x := ⟨_, List.getElem?_eq_getElem (by rw [HN.out]; omega)⟩
      obtain ⟨b, o, rfl, _, hcell⟩ := HAT.out (m - 1) x hx
      obtain ⟨k, rfl⟩ : ∃ k, m = k + 1 := ⟨m - 1, by omega⟩
      rw [Nat.add_sub_cancel] at hx hcell
      have e1 : ((k + 1 : Nat) : Int) - 1 = (k : Int) := by omega
      have hcell : (w.drewN q).cell? ⟨b, o + k, none⟩ = some (.int .u64 (x : Int)) := hcell
      have i1 : (0 : Int) ≤ (k : Int) := by omega
      have i2 : (k : Int) < ((k + 1 : Nat) : Int) := by omega
      have i3 : (k : Int) ≤ (c : Int) := by omega
      have hx2 : (l.take (k + 1))[k]? = some x := by rw [List.getElem?_take, if_pos (by omega)]; exact hx
      by_cases hz : x = 0
      · subst hz
        have HV2 : Hid (lval (l.take k) = lval l) := Lib.hid (by
          rw [← HV.out, lval_take l k 0 hx]
          omega)
        clear hx hx2 HV hlm
        go_wp2_with fail
        go_roundw
        case rel => exact ⟨k, q, by omega, by rfl, HV2, rfl⟩
        case measure => simp
      · have dz : ((x : Int) == 0) = false := by simp; omega
        have HX := Lib.hid hx2
        have HLM := Lib.hid hlm
        have HZ := Lib.hid hz
        clear hx hx2 hlm hz
        go_wp2_with fail
        go_ret
        refine ⟨k + 1, by rw [HLM.out]; rfl, HV.out, fun d hd => ?_, hm, belq⟩
        rw [HLM.out, Nat.add_sub_cancel, HX.out] at hd
        injection hd with hd
        rw [← hd]
        exact HZ.out
    · obtain rfl : m = 0 := by omega
      clear hlm
      go_wp2_with fail
      go_ret
      exact ⟨0, rfl, HV.out, fun d hd => by simp at hd, Nat.zero_le _, belq⟩

theorem u64C_len (l : List Nat) : (u64C l).length = l.length := by simp [u64C]
theorem u64C_set (l : List Nat) (j x : Nat) : (u64C l).toArray.setIfInBounds j (.int .u64 (x : Int)) = (u64C (l.set j x)).toArray := by
  rw [List.setIfInBounds_toArray]
  simp [u64C, List.map_set]
theorem u64C_at (l : List Nat) (j x : Nat) (h : l[j]? = some x) : (u64C l).toArray[j]? = some (.int .u64 (x : Int)) := by
  simp [u64C, h]
theorem make_u64 (n : Nat) (h : n ≤ 1000) (W : World) : (Instr.makeSlice 144 (.int .i64 n) (.int .i64 n)).run Tryz.prog W = .ok (.slice (some ⟨W.heap.size, 0, none⟩) n n) (W.alloc (.cells (u64C (List.replicate n 0)).toArray 123)) := by
  obtain ⟨i0, hi, hz0, hz1, hz2⟩ := info_parts infoU
  have := run_makeSlice W 144 123 i0 _ Tryz.underlying144 hi hz0 .i64 .i64 (n : Int) (n : Int) (by omega) (by omega) (by rw [hz1]; omega) (by rw [hz2]; omega) (by omega)
  rw [this, hz1]
  have e : madeCells (Value.int .u64 0).cells ((n : Int).toNat * 1) = (u64C (List.replicate n 0)).toArray := by
    apply Array.toList_inj.1
    show (madeCells #[Value.int .u64 0] _).toList = _
    rw [toList_madeCells_one]
    simp [u64C]
  rw [e]
  rfl

set_option maxRecDepth 100000 in
set_option maxHeartbeats 2000000 in
theorem mul_any (a b : Option Addr) (ca cb : Nat) (la lb : List Nat) (w : World) (ha : U64At w a la) (hb : U64At w b lb) (hda : Digs la) (hdb : Digs lb) (hla : la.length ≤ 4) (hlb : lb.length ≤ 4) :
    Calls Tryz.prog 143 #[.slice a la.length ca, .slice b lb.length cb] w fun e w' => ∃ c l a', e = .returned (.slice a' l.length c) ∧ U64At w' a' l ∧ lval l = lval la * lval lb ∧ Norm l ∧ l.length ≤ 8 ∧ Below w.heap.size w w' := by
  obtain ⟨na, hna⟩ : ∃ n, la.length = n := ⟨_, rfl⟩
  obtain ⟨nb, hnb⟩ : ∃ n, lb.length = n := ⟨_, rfl⟩
  have HNA := Lib.hid hna
  have HNB := Lib.hid hnb
  have HA := Lib.hid ha
  have HB := Lib.hid hb
  have HDA := Lib.hid hda
  have HDB := Lib.hid hdb
  rw [hna] at hla ⊢
  rw [hnb] at hlb ⊢
  have mk := fun W => make_u64 (na + nb) (by omega) W
  simp only [Int.natCast_add] at mk
  have MK := Lib.hid mk
  have mk := mk w
  clear hna hnb ha hb hda hdb
  go_enter Tryz.func143, Tryz.ntmps143
  go_wp2_with fail
  clear mk
  go_loopw [6] (fun s6 wr => ∃ (i : Nat) (o : List Nat), i ≤ na ∧ s6 = .int .i64 i ∧ o.length = na + nb ∧ Hid (Digs o) ∧ Hid (lval o = lval (la.take i) * lval lb) ∧ Hid (∀ j, i + nb ≤ j → j < na + nb → o[j]? = some 0) ∧ Blk wr w.heap.size 123 (u64C o).toArray ∧ Below w.heap.size w wr)
    (fun s6 _ => na - (intOf s6).toNat)
  case atStart =>
    refine ⟨0, List.replicate (na + nb) 0, by omega, rfl, by simp, Lib.hid (fun i d h => ?_), Lib.hid (by rw [lval_zeros, List.take_zero]; simp [lval]), Lib.hid (fun j h1 h2 => by rw [List.getElem?_replicate, if_pos h2]), Blk.new _ _ _, (Below.refl _ _).alloc (Nat.le_refl _) _⟩
    rw [List.getElem?_replicate] at h
    split at h
    · injection h with h; omega
    · simp at h
  case round =>
    obtain ⟨i, o, hi, rfl, hol, HDO, HV, HZ, blk, bel⟩ := hrel
    have hsz := bel.size
    have HOL := Lib.hid hol
    have BLK := Lib.hid blk
    have BEL := Lib.hid bel
    clear hol blk bel
    by_cases hlt : i < na
    · have d1 : decide (i < na) = true := decide_eq_true hlt
      have d1' : decide ((i : Int) < (na : Int)) = true := decide_eq_true (by omega)
      obtain ⟨ai, hai⟩ : ∃ x, la[i]? = some x := ⟨_, List.getElem?_eq_getElem (by rw [HNA.out]; omega)⟩
      obtain ⟨ab, ao, rfl, halt, hac⟩ := HA.out i ai hai
      have hai2 := HDA.out i ai hai
      have HAI := Lib.hid hai
      have HAC := Lib.hid hac
      have HALT := Lib.hid halt
      clear hai hac halt
      go_wp2_with fail
      go_loopw [7, 8] (fun s7 s8 wr2 => ∃ (k c : Nat) (o2 : List Nat), k ≤ nb ∧ s8 = .int .i64 k ∧ s7 = .int .u64 c ∧ c < 65536 ∧ o2.length = na + nb ∧ Hid (Digs o2) ∧ Hid (lval o2 + c * 65536 ^ (i + k) = lval (la.take i) * lval lb + ai * lval (lb.take k) * 65536 ^ i) ∧ Hid (∀ j, i + nb ≤ j → j < na + nb → o2[j]? = some 0) ∧ Blk wr2 w.heap.size 123 (u64C o2).toArray ∧ Below w.heap.size w wr2)
        (fun _ s8 _ => nb - (intOf s8).toNat)
      case atStart =>
        exact ⟨0, 0, o, by omega, rfl, rfl, by omega, HOL.out, HDO, Lib.hid (by rw [List.take_zero, HV.out]; simp [lval]), HZ, BLK.out, BEL.out⟩
      case round =>
        obtain ⟨k, c, o2, hk, rfl, rfl, hc, hol2, HDO2, HV2, HZ2, blk2, bel2⟩ := hrel
        have hsz2 := bel2.size
        have HOL2 := Lib.hid hol2
        have BEL2 := Lib.hid bel2
        have hi3 : i ≤ 4 := by omega
        have hk3 : k ≤ 4 := by omega
        by_cases hlk : k < nb
        · have d2 : decide (k < nb) = true := decide_eq_true hlk
          have d2' : decide ((k : Int) < (nb : Int)) = true := decide_eq_true (by omega)
          obtain ⟨bk, hbk⟩ : ∃ x, lb[k]? = some x := ⟨_, List.getElem?_eq_getElem (by rw [HNB.out]; omega)⟩
          obtain ⟨bb, bo, rfl, hblt, hbc⟩ := HB.out k bk hbk
          have hbk2 := HDB.out k bk hbk
          obtain ⟨y, hy⟩ : ∃ x, o2[i + k]? = some x := ⟨_, List.getElem?_eq_getElem (by rw [hol2]; omega)⟩
          have hy2 := HDO2.out _ y hy
          have c1 : wr.cell? ⟨ab, ao + i, none⟩ = some (.int .u64 (ai : Int)) := (BEL2.out.cell (p := ⟨ab, ao + i, none⟩) HALT.out).trans HAC.out
          have c2 : wr.cell? ⟨bb, bo + k, none⟩ = some (.int .u64 (bk : Int)) := (BEL2.out.cell (p := ⟨bb, bo + k, none⟩) hblt).trans hbc
          have c3 : wr.cell? ⟨w.heap.size, i + k, none⟩ = some (.int .u64 (y : Int)) := blk2.cell' _ (u64C_at _ _ _ hy)
          have c4 := blk2.frozen (i + k)
          obtain ⟨hb1, hb2, hb3⟩ := v_bd hy2 hai2 hbk2 hc
          have hstep := mul_step o2 lb i k c _ ai bk y HV2.out hbk hy
          have pe : (ai : Int) * (bk : Int) = ((ai * bk : Nat) : Int) := (Int.natCast_mul _ _).symm
          obtain ⟨p, hp⟩ : ∃ p, ai * bk = p := ⟨_, rfl⟩
          rw [hp] at pe hb1 hb2 hb3 hstep
          have pw : IntKind.u64.wrap (p : Int) = p := by rw [IntKind.wrap_u64]; omega
          have pw2 : IntKind.u64.wrap ((y : Int) + (p : Int)) = (y : Int) + (p : Int) := by rw [IntKind.wrap_u64]; omega
          obtain ⟨v, hv⟩ : ∃ v, y + p + c = v := ⟨_, rfl⟩
          rw [hv] at hb2 hb3 hstep
          have pw3 : (y : Int) + (p : Int) + (c : Int) = (v : Int) := by omega
          have pw4 : IntKind.u64.wrap (v : Int) = (v : Int) := by rw [IntKind.wrap_u64]; omega
          have hand : bits .and .u64 (v : Int) 65535 = ((v % 65536 : Nat) : Int) := by
            have h := bits_and_u64_nat v 65535 (by omega) (by omega)
            rw [show v &&& 65535 = v % 65536 from Nat.and_two_pow_sub_one_eq_mod v 16] at h
            exact h
          have hq : (v : Int) / 65536 = ((v / 65536 : Nat) : Int) := by omega
          obtain ⟨r, hr⟩ : ∃ r, v % 65536 = r := ⟨_, rfl⟩
          obtain ⟨q, hqq⟩ : ∃ r, v / 65536 = r := ⟨_, rfl⟩
          have hr2 : r < 65536 := by omega
          rw [hr] at hand hstep
          rw [hqq] at hq hstep hb3
          have HS := Lib.hid hstep
          have HDO3 := Lib.hid (digs_set (j := i + k) HDO2.out hr2)
          have HZ3 : Hid (∀ j, i + nb ≤ j → j < na + nb → (o2.set (i + k) r)[j]? = some 0) := Lib.hid (fun j h1 h2 => by
            rw [List.getElem?_set, if_neg (by omega)]
            exact HZ2.out j h1 h2)
          have BLK3 := Lib.hid (show ∀ n, Blk ((wr.drewN n).setCell ⟨w.heap.size, i + k, none⟩ (.int .u64 (r : Int))) w.heap.size 123 (u64C (o2.set (i + k) r)).toArray from fun n => by
            rw [← u64C_set]
            exact (Blk.drewN blk2 n).put _ _)
          have BEL3 := Lib.hid (show ∀ n, Below w.heap.size w ((wr.drewN n).setCell ⟨w.heap.size, i + k, none⟩ (.int .u64 (r : Int))) from fun n => (below_drewN bel2 n).setCell (Nat.le_refl _) _)
          have j1 : (0 : Int) ≤ (i : Int) + (k : Int) := by omega
          have j2 : (i : Int) + (k : Int) < (na : Int) + (nb : Int) := by omega
          have j3 : (0 : Int) ≤ (i : Int) := by omega
          have j4 : (i : Int) < (na : Int) := by omega
          have j5 : (0 : Int) ≤ (k : Int) := by omega
          have j6 : (k : Int) < (nb : Int) := by omega
          have HL3 := Lib.hid (show (o2.set (i + k) r).length = na + nb by rw [List.length_set, hol2])
          have blt : w.heap.size < wr.heap.size := blk2.lt
          clear hp hv hr hqq hstep hy hbk hbc blk2 bel2 hol2 HDO2 HV2 HZ2 HAC HAI HOL2 HOL HDO HV HZ BLK BEL
          go_wp2_with fail
          go_quiet (fail)
          go_wp2_with fail
          go_roundw
          case rel => exact ⟨k + 1, q, o2.set (i + k) r, by omega, by go_num, by go_num, by omega, HL3.out, HDO3, HS, HZ3, BLK3.out _, BEL3.out _⟩
          case measure => simp [intOf]; omega
        · obtain rfl : k = nb := by omega
          have hz := HZ2.out (i + k) (Nat.le_refl _) (by omega)
          have c3 : wr.cell? ⟨w.heap.size, i + k, none⟩ = some (.int .u64 0) := blk2.cell' _ (u64C_at _ _ _ hz)
          have c4 := blk2.frozen (i + k)
          have HV3 := Lib.hid (show lval (o2.set (i + k) c) = lval (la.take (i + 1)) * lval lb by
            have hI := HV2.out
            have hz' := hz
            rw [← HNB.out] at hI hz' ⊢
            rw [mul_end o2 lb i c _ ai hI hz', lval_take la i ai HAI.out]
            grind)
          have HDO3 := Lib.hid (digs_set (j := i + k) HDO2.out hc)
          have HZ3 : Hid (∀ j, i + 1 + k ≤ j → j < na + k → (o2.set (i + k) c)[j]? = some 0) := Lib.hid (fun j h1 h2 => by
            rw [List.getElem?_set, if_neg (by omega)]
            exact HZ2.out j (by omega) h2)
          have BLK3 := Lib.hid (show Blk (wr.setCell ⟨w.heap.size, i + k, none⟩ (.int .u64 (c : Int))) w.heap.size 123 (u64C (o2.set (i + k) c)).toArray from by
            rw [← u64C_set]
            exact blk2.put _ _)
          have BEL3 := Lib.hid (bel2.setCell (p := ⟨w.heap.size, i + k, none⟩) (Nat.le_refl _) (.int .u64 (c : Int)))
          have HL3 := Lib.hid (show (o2.set (i + k) c).length = na + k by rw [List.length_set, hol2])
          have blt : w.heap.size < wr.heap.size := blk2.lt
          have j1 : (0 : Int) ≤ (i : Int) + (k : Int) := by omega
          have j2 : (i : Int) + (k : Int) < (na : Int) + (k : Int) := by omega
          have pw4 : IntKind.u64.wrap (c : Int) = (c : Int) := by rw [IntKind.wrap_u64]; omega
          clear hz blk2 bel2 hol2 HDO2 HV2 HZ2 HAC HAI HOL2 HOL HDO HV HZ BLK BEL
          go_wp2_with fail
          go_roundw
          case rel => exact ⟨i + 1, o2.set (i + k) c, by omega, by go_num, HL3.out, HDO3, HV3, HZ3, BLK3.out, BEL3.out⟩
          case measure => simp [intOf]; omega
    · obtain rfl : i = na := by omega
      have HV3 := Lib.hid (show lval o = lval la * lval lb by rw [HV.out, ← HNA.out, List.take_length])
      have KC := cut_any (some ⟨w.heap.size, 0, none⟩) (i + nb) o wr (fun j x hx => ⟨w.heap.size, 0, rfl, BLK.out.lt, by rw [Nat.zero_add]; exact BLK.out.cell' _ (u64C_at _ _ _ hx)⟩) (by rw [HOL.out]; omega) (by rw [HOL.out]; omega) (by omega)
      rw [HOL.out] at KC
      have KC := Lib.hid KC
      have U := Lib.hid (show U64At wr (some ⟨w.heap.size, 0, none⟩) o from fun j x hx => ⟨w.heap.size, 0, rfl, BLK.out.lt, by rw [Nat.zero_add]; exact BLK.out.cell' _ (u64C_at _ _ _ hx)⟩)
      clear BLK HV HZ
      go_wp2_with fail
      refine KC.out.mono ?_
      rintro e w5 ⟨k, rfl, hv, hnz, hk, b5⟩
      have hkl : (o.take k).length ≤ 8 := by rw [List.length_take]; omega
      obtain ⟨o3, ho3⟩ : ∃ l, o.take k = l := ⟨_, rfl⟩
      have U2 := Lib.hid ((U.out.take k).below b5)
      have N2 := Lib.hid (show Norm (o.take k) from ⟨digs_take HDO.out k, hnz⟩)
      have V2 := Lib.hid (hv.trans HV3.out)
      rw [ho3] at U2 N2 V2 hkl ⊢
      clear ho3 hv hnz U
      go_wp2_with fail
      go_ret
      exact ⟨_, o3, _, rfl, U2.out, V2.out, N2.out, hkl, BEL.out.trans (b5.mono hsz)⟩
end Go.Proofs.YtefdjdipbnnoaaaGreatDoor

namespace Go.Proofs.YtefdjdipbnnoaaaGreatDoor
open Go Go.RowKit
set_option linter.unusedVariables false

theorem cmpV_lt {x y : Nat} (h : x < y) : cmpV x y = -1 := if_pos h
theorem cmpV_gt {x y : Nat} (h : y < x) : cmpV x y = 1 := by unfold cmpV; rw [if_neg (by omega), if_neg (by omega)]
theorem cmpV_eq {x y : Nat} (h : x = y) : cmpV x y = 0 := by unfold cmpV; rw [if_neg (by omega), if_pos h]
set_option maxRecDepth 100000 in
set_option maxHeartbeats 1000000 in
theorem rcmp_any (a b : Option Addr) (ca cb : Nat) (la lb : List Nat) (w : World) (ha : U64At w a la) (hb : U64At w b lb) (na : Norm la) (nb : Norm lb) (hla : la.length ≤ 8) (hlb : lb.length ≤ 8) :
    Calls Tryz.prog 138 #[.slice a la.length ca, .slice b lb.length cb] w fun e w' => e = .returned (.int .i64 (cmpV (lval la) (lval lb))) ∧ Below w.heap.size w w' := by
  rcases Nat.lt_trichotomy la.length lb.length with h | h | h
  · rw [cmpV_lt (lval_len_lt na.1 nb h)]
    obtain ⟨n, hn⟩ : ∃ n, la.length = n := ⟨_, rfl⟩
    obtain ⟨m, hm⟩ : ∃ n, lb.length = n := ⟨_, rfl⟩
    rw [hn] at h hla ⊢
    rw [hm] at h hlb ⊢
    clear hn hm na nb ha hb
    have d0 : ((n : Int) == (m : Int)) = false := by simp; omega
    have d00 : decide ((n : Int) = (m : Int)) = false := decide_eq_false (by omega)
    have d01 : decide (n = m) = false := decide_eq_false (by omega)
    have d1 : decide (n < m) = true := decide_eq_true h
    have d1' : decide ((n : Int) < (m : Int)) = true := decide_eq_true (by omega)
    go_enter Tryz.func138, Tryz.ntmps138
    go_wp2_with fail
    go_ret
    exact ⟨rfl, Below.refl _ _⟩
  · obtain ⟨n, hn⟩ : ∃ n, la.length = n := ⟨_, rfl⟩
    have HLA := Lib.hid hn
    have HLB := Lib.hid (show lb.length = n by omega)
    rw [hn] at h hla ⊢
    rw [← h]
    have HA := Lib.hid ha
    have HB := Lib.hid hb
    have NA := Lib.hid na.1
    have NB := Lib.hid nb.1
    clear hn h ha hb na nb hlb
    go_enter Tryz.func138, Tryz.ntmps138
    go_wp2_with fail
    go_loopw [5] (fun s5 wr => ∃ (i q : Nat), i ≤ n ∧ s5 = .int .i64 ((i : Int) - 1) ∧ Hid (∀ j, i ≤ j → la[j]? = lb[j]?) ∧ wr = w.drewN q) (fun s5 _ => ((intOf s5) + 1).toNat)
    case atStart => exact ⟨n, 0, Nat.le_refl _, rfl, Lib.hid (fun j hj => by rw [List.getElem?_eq_none (by rw [HLA.out]; omega), List.getElem?_eq_none (by rw [HLB.out]; omega)]), rfl⟩
    case round =>
      obtain ⟨i, q, hi, rfl, HQ, rfl⟩ := hrel
      have belq : Below w.heap.size w (w.drewN q) := below_drewN (Below.refl _ _) q
      rcases i with _ | i
      · have e : la = lb := List.ext_getElem? fun j => HQ.out j (Nat.zero_le _)
        have E := Lib.hid (cmpV_eq (congrArg lval e))
        clear e
        go_wp2_with fail
        go_ret
        exact ⟨ret_int E.out.symm, belq⟩
      · have e1 : ((i + 1 : Nat) : Int) - 1 = (i : Int) := by omega
        rw [e1]
        obtain ⟨x, hx⟩ : ∃ x, la[i]? = some x := ⟨_, List.getElem?_eq_getElem (by rw [HLA.out]; omega)⟩
        obtain ⟨y, hy⟩ : ∃ x, lb[i]? = some x := ⟨_, List.getElem?_eq_getElem (by rw [HLB.out]; omega)⟩
        obtain ⟨b1, o1, rfl, _, c1⟩ := HA.out i x hx
        obtain ⟨b2, o2, rfl, _, c2⟩ := HB.out i y hy
        have c1 : ∀ q, (w.drewN q).cell? ⟨b1, o1 + i, none⟩ = some (.int .u64 (x : Int)) := fun q => c1
        have c2 : ∀ q, (w.drewN q).cell? ⟨b2, o2 + i, none⟩ = some (.int .u64 (y : Int)) := fun q => c2
        have i1 : (0 : Int) ≤ (i : Int) := by omega
        have i2 : (i : Int) < (n : Int) := by omega
        rcases Nat.lt_trichotomy x y with hxy | hxy | hxy
        · have E := Lib.hid (cmpV_lt (lval_at i la lb x y NA.out (by rw [HLA.out, HLB.out]) (fun j hj => HQ.out j hj) hx hy hxy))
          have d1 : decide (x < y) = true := decide_eq_true hxy
          have d1' : decide ((x : Int) < (y : Int)) = true := decide_eq_true (by omega)
          clear hx hy
          go_wp2_with fail
          go_quiet (fail)
          go_wp2_with fail
          go_ret
          exact ⟨ret_int E.out.symm, by first | exact below_drewN belq _ | exact below_drewN (below_drewN belq _) _⟩
        · have HQ2 : Hid (∀ j, i ≤ j → la[j]? = lb[j]?) := Lib.hid (fun j hj => by
            rcases Nat.lt_or_ge i j with h | h
            · exact HQ.out j h
            · obtain rfl : j = i := by omega
              rw [hx, hy, hxy])
          subst hxy
          clear hx hy HQ
          go_wp2_with fail
          go_quiet (fail)
          go_wp2_with fail
          go_quiet (fail)
          go_wp2_with fail
          go_roundw
          case rel => exact ⟨i, _, by omega, by go_num, HQ2, by first | rfl | rw [World.drewN_drewN, World.drewN_drewN] | rw [World.drewN_drewN]⟩
          case measure => first | (simp [intOf]; done) | (simp [intOf]; omega)
        · have E := Lib.hid (cmpV_gt (lval_at i lb la y x NB.out (by rw [HLA.out, HLB.out]) (fun j hj => (HQ.out j hj).symm) hy hx hxy))
          have d1 : decide (x < y) = false := decide_eq_false (by omega)
          have d1' : decide ((x : Int) < (y : Int)) = false := decide_eq_false (by omega)
          have d2 : decide (y < x) = true := decide_eq_true hxy
          have d2' : decide ((y : Int) < (x : Int)) = true := decide_eq_true (by omega)
          clear hx hy
          go_wp2_with fail
          go_quiet (fail)
          go_wp2_with fail
          go_quiet (fail)
          go_wp2_with fail
          go_ret
          exact ⟨ret_int E.out.symm, by first | exact below_drewN belq _ | exact below_drewN (below_drewN belq _) _⟩
  · rw [cmpV_gt (lval_len_lt nb.1 na h)]
    obtain ⟨n, hn⟩ : ∃ n, la.length = n := ⟨_, rfl⟩
    obtain ⟨m, hm⟩ : ∃ n, lb.length = n := ⟨_, rfl⟩
    rw [hn] at h hla ⊢
    rw [hm] at h hlb ⊢
    clear hn hm na nb ha hb
    have d0 : ((n : Int) == (m : Int)) = false := by simp; omega
    have d00 : decide ((n : Int) = (m : Int)) = false := decide_eq_false (by omega)
    have d01 : decide (n = m) = false := decide_eq_false (by omega)
    have d1 : decide (n < m) = false := decide_eq_false (by omega)
    have d1' : decide ((n : Int) < (m : Int)) = false := decide_eq_false (by omega)
    go_enter Tryz.func138, Tryz.ntmps138
    go_wp2_with fail
    go_ret
    exact ⟨rfl, Below.refl _ _⟩

theorem rmag_any (n : Nat) (h : n ≤ 4611686018427387904) (w : World) : Calls Tryz.prog 144 #[.int .i64 n] w fun e w' => e = .returned (.int .u64 n) ∧ w = w' := by
  have d0 : decide ((n : Int) < 0) = false := decide_eq_false (by omega)
  have hw : IntKind.u64.wrap (n : Int) = n := by rw [IntKind.wrap_u64]; omega
  go_enter Tryz.func144, Tryz.ntmps144
  go_wp2_with fail
  go_ret
  exact ⟨rfl, rfl⟩
theorem rsign_any (a b : Nat) (ha : 1 ≤ a) (hb : 1 ≤ b) (w : World) : Calls Tryz.prog 137 #[.int .i64 a, .int .i64 b] w fun e w' => e = .returned (.int .i64 1) ∧ w = w' := by
  have d0 : ((a : Int) == 0) = false := by simp; omega
  have d1 : ((b : Int) == 0) = false := by simp; omega
  have d2 : decide ((a : Int) < 0) = false := decide_eq_false (by omega)
  have d3 : decide ((b : Int) < 0) = false := decide_eq_false (by omega)
  go_enter Tryz.func137, Tryz.ntmps137
  go_wp2_with fail
  go_ret
  exact ⟨rfl, rfl⟩
theorem rproduct_any (a b : Nat) (ha : a < 281474976710656) (hb : b < 281474976710656) (w : World) : Calls Tryz.prog 119 #[.int .i64 a, .int .i64 b] w fun e w' => ∃ c l a', e = .returned (.slice a' l.length c) ∧ U64At w' a' l ∧ lval l = a * b ∧ Norm l ∧ l.length ≤ 8 ∧ Below w.heap.size w w' := by
  have M1 := Lib.hid (fun W => rmag_any a (by omega) W)
  have M2 := Lib.hid (fun W => rmag_any b (by omega) W)
  have L1 := Lib.hid (fun W => limbs_any a (by omega) W)
  have L2 := Lib.hid (fun W => limbs_any b (by omega) W)
  clear ha hb
  go_enter Tryz.func119, Tryz.ntmps119
  go_wp2_with fail
  refine (M1.out _).mono ?_
  rintro e w' ⟨rfl, rfl⟩
  go_wp2_with fail
  refine (L1.out _).mono ?_
  rintro e w1 ⟨a1, c1, l1, rfl, u1, v1, g1, n1, b1⟩
  have U1 := Lib.hid u1
  have V1 := Lib.hid v1
  have G1 := Lib.hid g1
  have N1 := Lib.hid n1
  have sz1 := b1.size
  obtain ⟨m1, hm1⟩ : ∃ m, l1.length = m := ⟨_, rfl⟩
  have HM1 := Lib.hid hm1
  rw [hm1]
  clear u1 v1 g1 n1 hm1
  go_wp2_with fail
  refine (M2.out _).mono ?_
  rintro e w' ⟨rfl, rfl⟩
  go_wp2_with fail
  refine (L2.out _).mono ?_
  rintro e w2 ⟨a2, c2, l2, rfl, u2, v2, g2, n2, b2⟩
  have KM := mul_any a1 a2 c1 c2 l1 l2 w2 (U1.out.below b2) u2 G1.out g2 N1.out n2
  rw [HM1.out, V1.out, v2] at KM
  obtain ⟨m2, hm2⟩ : ∃ m, l2.length = m := ⟨_, rfl⟩
  rw [hm2] at KM ⊢
  have KM := Lib.hid KM
  clear u2 v2 g2 n2 hm2
  go_wp2_with fail
  refine KM.out.mono ?_
  rintro e w3 ⟨c, l, a', rfl, h1, h2, h3, h4, b3⟩
  have H1 := Lib.hid h1
  have H2 := Lib.hid h2
  have H3 := Lib.hid h3
  have H4 := Lib.hid h4
  obtain ⟨m3, hm3⟩ : ∃ m, l.length = m := ⟨_, rfl⟩
  have HM3 := Lib.hid hm3
  rw [hm3]
  clear h1 h2 h3 h4 hm3
  go_wp2_with fail
  go_ret
  exact ⟨c, l, a', by rw [HM3.out]; rfl, H1.out, H2.out, H3.out, H4.out, b1.trans ((b2.trans (b3.mono b2.size)).mono sz1)⟩
theorem rCmp_any (a b c d : Nat) (ha : 1 ≤ a ∧ a < 281474976710656) (hb : 1 ≤ b ∧ b < 281474976710656) (hc : 1 ≤ c ∧ c < 281474976710656) (hd : 1 ≤ d ∧ d < 281474976710656) (w : World) :
    Calls Tryz.prog 106 #[.int .i64 a, .int .i64 b, .int .i64 c, .int .i64 d] w fun e w' => e = .returned (.int .i64 (cmpV (a * b) (c * d))) ∧ Below w.heap.size w w' := by
  have S1 := Lib.hid (fun W => rsign_any a b ha.1 hb.1 W)
  have S2 := Lib.hid (fun W => rsign_any c d hc.1 hd.1 W)
  have P1 := Lib.hid (fun W => rproduct_any a b ha.2 hb.2 W)
  have P2 := Lib.hid (fun W => rproduct_any c d hc.2 hd.2 W)
  have hb0 := cmpV_bd (a * b) (c * d)
  obtain ⟨z, hz⟩ : ∃ z, cmpV (a * b) (c * d) = z := ⟨_, rfl⟩
  rw [hz] at hb0 ⊢
  have HZ := Lib.hid hz
  have hw : IntKind.i64.wrap z = z := by rw [IntKind.wrap_i64]; omega
  clear hz hb0 ha hb hc hd
  go_enter Tryz.func106, Tryz.ntmps106
  go_wp2_with fail
  refine (S1.out _).mono ?_
  rintro e w' ⟨rfl, rfl⟩
  go_wp2_with fail
  refine (S2.out _).mono ?_
  rintro e w' ⟨rfl, rfl⟩
  go_wp2_with fail
  refine (P1.out _).mono ?_
  rintro e w1 ⟨c1, l1, a1, rfl, u1, v1, n1, g1, b1⟩
  have U1 := Lib.hid u1
  have V1 := Lib.hid v1
  have N1 := Lib.hid n1
  have G1 := Lib.hid g1
  have sz1 := b1.size
  obtain ⟨m1, hm1⟩ : ∃ m, l1.length = m := ⟨_, rfl⟩
  have HM1 := Lib.hid hm1
  rw [hm1]
  clear u1 v1 n1 hm1 g1
  go_wp2_with fail
  refine (P2.out _).mono ?_
  rintro e w2 ⟨c2, l2, a2, rfl, u2, v2, n2, g2, b2⟩
  have KM := rcmp_any a1 a2 c1 c2 l1 l2 w2 (U1.out.below b2) u2 N1.out n2 G1.out g2
  rw [HM1.out, V1.out, v2, HZ.out] at KM
  obtain ⟨m2, hm2⟩ : ∃ m, l2.length = m := ⟨_, rfl⟩
  rw [hm2] at KM ⊢
  have KM := Lib.hid KM
  clear u2 v2 n2 hm2 g2
  go_wp2_with fail
  refine KM.out.mono ?_
  rintro e w3 ⟨rfl, b3⟩
  go_wp2_with fail
  go_ret
  exact ⟨rfl, b1.trans ((b2.trans (b3.mono b2.size)).mono sz1)⟩
end Go.Proofs.YtefdjdipbnnoaaaGreatDoor
