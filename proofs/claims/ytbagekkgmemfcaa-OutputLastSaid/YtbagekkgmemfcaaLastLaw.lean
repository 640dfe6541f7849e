/-
  Bits of a state of outputs: plain laws.
-/
import Derived.Test.YtbagekkgmemfcaaLaws38
import Derived.Laws.BitsLemmas
namespace Go.Proofs.Ytbagekkgmemfcaa
open Go Go.RowKit
set_option linter.unusedVariables false

/-- Bit k of a state. -/
def bitB (s : Int) (k : Nat) : Bool := bits BinOp.and IntKind.i64 (s / 2 ^ k) 1 == 1
theorem wraps16 (n : Int) (h0 : 0 ≤ n) (h1 : n < 2 ^ 16) : IntKind.i64.wrap n = n := by rw [IntKind.wrap_i64]; omega
theorem bitB_nat (S k : Nat) (hS : S < 65536) : bitB (S : Int) k = S.testBit k := by
  unfold bitB
  have hd : S / 2 ^ k < 2 ^ 16 := Nat.lt_of_le_of_lt (Nat.div_le_self _ _) (by omega)
  have e : ((S : Int) / 2 ^ k) = ((S / 2 ^ k : Nat) : Int) := by simp
  rw [e, show (1 : Int) = ((1 : Nat) : Int) from rfl, (bits_nat .i64 16 (by decide) wraps16 (S / 2 ^ k) 1 hd (by omega)).1, Nat.testBit_eq_decide_div_mod_eq, Nat.and_one_is_mod]
  rcases Nat.mod_two_eq_zero_or_one (S / 2 ^ k) with h | h
  · rw [h]; decide
  · rw [h]; decide
theorem swV_nat (S N : Nat) (on : Bool) (hS : S < 65536) (hN : N < 16) : ∃ R : Nat, swV (S : Int) 10 (N : Int) on = (R : Int) ∧ R < 65536 ∧ ∀ k, k < 16 → R.testBit k = if k = N then on else S.testBit k := by
  have hp : 2 ^ N < 2 ^ 16 := Nat.pow_lt_pow_right (by omega) hN
  have hw : wrap64 (2 ^ ((N : Int).toNat)) = ((2 ^ N : Nat) : Int) := by
    have we : ∀ x, wrap64 x = IntKind.i64.wrap x := fun x => by rw [IntKind.wrap_i64]; unfold wrap64; rfl
    rw [we, Int.toNat_natCast, show (2 : Int) ^ N = ((2 ^ N : Nat) : Int) by simp]
    exact wraps16 _ (Int.natCast_nonneg _) (by exact_mod_cast hp)
  cases on
  · have hle : (BitVec.ofNat 64 S &&& ~~~BitVec.ofNat 64 (2 ^ N)).toNat ≤ S := by
      rw [BitVec.toNat_and, BitVec.toNat_ofNat]
      exact Nat.le_trans Nat.and_le_left (Nat.mod_le _ _)
    refine ⟨(BitVec.ofNat 64 S &&& ~~~BitVec.ofNat 64 (2 ^ N)).toNat, ?_, Nat.lt_of_le_of_lt hle hS, ?_⟩
    · rw [swV_off (by omega) (by omega), hw]
      simp only [bits, BitVec.ofInt_natCast]
      exact wraps16 _ (Int.natCast_nonneg _) (by
        have : (BitVec.ofNat 64 S &&& ~~~BitVec.ofNat 64 (2 ^ N)).toNat < 2 ^ 16 := by omega
        exact_mod_cast this)
    · intro k hk
      rw [BitVec.testBit_toNat, BitVec.getLsbD_and, BitVec.getLsbD_not, BitVec.getLsbD_ofNat, BitVec.getLsbD_ofNat, Nat.testBit_two_pow]
      by_cases h : k = N
      · subst h; simp
      · simp [h, show N ≠ k by omega, show k < 64 by omega]
  · refine ⟨S ||| 2 ^ N, ?_, ?_, ?_⟩
    · rw [swV_on (by omega) (by omega), hw]
      exact (bits_nat .i64 16 (by decide) wraps16 S (2 ^ N) (by omega) hp).2
    · exact Nat.or_lt_two_pow (n := 16) (by omega) hp
    · intro k hk
      rw [Nat.testBit_or, Nat.testBit_two_pow]
      by_cases h : k = N
      · subst h; simp
      · simp [h, show N ≠ k by omega]
/-- The state behind an item, bit by bit. -/
theorem swV_bits (s m : Int) (on : Bool) (hs : 0 ≤ s ∧ s < 65536) (hm : 0 ≤ m ∧ m < 16) : 0 ≤ swV s 10 m on ∧ swV s 10 m on < 65536 ∧ ∀ k : Nat, k < 16 → bitB (swV s 10 m on) k = if (k : Int) = m then on else bitB s k := by
  obtain ⟨S, rfl⟩ := Int.eq_ofNat_of_zero_le hs.1
  obtain ⟨N, rfl⟩ := Int.eq_ofNat_of_zero_le hm.1
  obtain ⟨R, hR, hlt, hb⟩ := swV_nat S N on (by omega) (by omega)
  rw [hR]
  refine ⟨by omega, by omega, fun k hk => ?_⟩
  rw [bitB_nat R k hlt, bitB_nat S k (by omega), hb k hk]
  by_cases h : k = N
  · subst h; simp
  · rw [if_neg h, if_neg (by omega)]
/-- Sixteen flags. -/
def flags (b : Nat → Bool) : List Value := (List.range 16).map fun i => .bool (b i)
theorem flags_at (b : Nat → Bool) {i : Nat} (hi : i < 16) : (flags b).toArray[i]? = some (.bool (b i)) := by simp [flags, hi]
theorem flags_put (b : Nat → Bool) {k : Nat} (v : Bool) (hk : k < 16) : (flags b).toArray.setIfInBounds k (.bool v) = (flags fun i => if i = k then v else b i).toArray := by
  unfold flags
  apply Array.ext
  · simp
  · intro i h1 h2
    rw [Array.getElem_setIfInBounds (by simpa using h1)]
    simp only [List.getElem_toArray, List.getElem_map, List.getElem_range]
    by_cases e : k = i
    · subst e; simp
    · rw [if_neg e, if_neg (Ne.symm e)]
theorem flags_congr {b b' : Nat → Bool} (h : ∀ i, i < 16 → b i = b' i) : flags b = flags b' := by
  unfold flags
  apply List.map_congr_left
  intro i hi
  rw [h i (by simpa using hi)]
end Go.Proofs.Ytbagekkgmemfcaa
