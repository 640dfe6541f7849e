/-
  slices.Clone at expressions, words, blocks.
-/
import Derived.Test.YteiogjgmedikhaaMem09
import Derived.Lib.SliceRun
namespace Go.Proofs.Yteiogjgmedikhaa
open Go Go.RowKit
set_option linter.unusedVariables false

/-- What slices.Clone returns: the same cells in new memory. -/
def ClonePost (T : TypeId) (C n : Nat) (f : Nat → List Value) (w : World) (e : Ending) (w' : World) : Prop :=
  ∃ v', e = .returned v' ∧ w'.ownsRow w.heap.size T C v' n (flat f n) ∧ Below w.heap.size w w'
theorem infoExpr : (Try.prog.info? 35).map (fun i => (i.zero, i.size, i.bytes)) = some (some (.agg #[.int .i64 0, .int .i64 0, .slice none 0 0]), 3, 40) := by kernel_rfl
theorem infoWord : (Try.prog.info? 48).map (fun i => (i.zero, i.size, i.bytes)) = some (some (.agg #[.int .i64 0, .int .i64 0, .int .i64 0, .slice none 0 0]), 4, 48) := by kernel_rfl
theorem infoBlock : (Try.prog.info? 37).map (fun i => (i.zero, i.size, i.bytes)) = some (some (.agg #[.int .i64 0, .int .i64 0, .bool false, .slice none 0 0, .int .i64 0, .int .i64 0, .slice none 0 0, .int .i64 0, .int .i64 0, .slice none 0 0, .int .i64 0]), 11, 136) := by kernel_rfl

set_option maxRecDepth 100000 in
set_option maxHeartbeats 1000000 in
theorem clone_expr (a : Option Addr) (n c : Nat) (f : Nat → List Value) (w : World) (h : TabAt w a 3 n f) (h1 : ∀ i, i < n → ∀ u ∈ f i, u.oneCell' = true) (h0 : a = none → n = 0) (hn : n ≤ 100000) :
    Calls Try.prog 60 #[.slice a n c] w (ClonePost 35 3 n f w) := by
  have q22 : ∀ (w : World) (a : Option Addr) (n c n' c' : Nat), (binOp .eql 33 (.slice a n c) (.slice none n' c')).run Try.prog w = .ok (.bool a.isNone) w := fun w a n c n' c' => Lib.run_eql_slice_nil w _ _ a n c n' c' Try.underlying33
  obtain ⟨i0, hi0, hz0, hz1, hz2⟩ := info_parts infoExpr
  cases a with
  | none =>
    obtain rfl := h0 rfl
    clear h h1 h0 hn
    go_enter Try.func60, Try.ntmps60
    go_wp2_with fail
    go_ret
    exact ⟨_, rfl, World.ownsRow_nil _ _ _ _, Below.refl _ _⟩
  | some x =>
    have H := Lib.hid h
    have H1 := Lib.hid h1
    have HN := Lib.hid hn
    have hfl : (flat f n).length = n * 3 := flat_len fun i hi => (h i hi).1
    have HFL := Lib.hid hfl
    clear h h1 h0 hfl hn
    go_enter Try.func60, Try.ntmps60
    go_wp2_with (at_builtin; refine wpList_append_own _ rfl _ _ 33 rfl w.heap.size 35 i0 (.agg #[.int .i64 0, .int .i64 0, .slice none 0 0]) 3 40 Try.underlying33 hi0 hz0 hz1 hz2 (by kernel_rfl) (by decide) _ _ _ rfl (World.ownsRow_made w #[] 0 (Nat.le_refl _) (Nat.zero_le _) (by simp)) x n c (flat f n) rfl ?qc1 ?qc2 ?qc3 ?qc4 ?qc5 ?qc6 ?_)
    case qc1 => exact HFL.out
    case qc2 => exact (H.out.below ((Below.refl _ _).alloc (Nat.le_refl _) _)).cells (by decide)
    case qc3 => intro u hu; obtain ⟨i, hi, hm⟩ := flat_mem hu; exact H1.out i hi u hm
    case qc4 => have := HN.out; rw [Nat.zero_add]; unfold maxLen; omega
    case qc5 => have := HN.out; rw [Nat.zero_add]; omega
    case qc6 => simp
    intro v' w1 hown hgrow hnil
    go_wp2_with fail
    go_ret
    refine ⟨v', rfl, by simpa using hown, ?_⟩
    exact ((Below.refl _ w).alloc (Nat.le_refl _) _).grown hgrow (by simp) (by intro k hk; simp [Value.ownBlock] at hk; omega)

set_option maxRecDepth 100000 in
set_option maxHeartbeats 1000000 in
theorem clone_word (a : Option Addr) (n c : Nat) (f : Nat → List Value) (w : World) (h : TabAt w a 4 n f) (h1 : ∀ i, i < n → ∀ u ∈ f i, u.oneCell' = true) (h0 : a = none → n = 0) (hn : n ≤ 100000) :
    Calls Try.prog 54 #[.slice a n c] w (ClonePost 48 4 n f w) := by
  have q22 : ∀ (w : World) (a : Option Addr) (n c n' c' : Nat), (binOp .eql 32 (.slice a n c) (.slice none n' c')).run Try.prog w = .ok (.bool a.isNone) w := fun w a n c n' c' => Lib.run_eql_slice_nil w _ _ a n c n' c' Try.underlying32
  obtain ⟨i0, hi0, hz0, hz1, hz2⟩ := info_parts infoWord
  cases a with
  | none =>
    obtain rfl := h0 rfl
    clear h h1 h0 hn
    go_enter Try.func54, Try.ntmps54
    go_wp2_with fail
    go_ret
    exact ⟨_, rfl, World.ownsRow_nil _ _ _ _, Below.refl _ _⟩
  | some x =>
    have H := Lib.hid h
    have H1 := Lib.hid h1
    have HN := Lib.hid hn
    have hfl : (flat f n).length = n * 4 := flat_len fun i hi => (h i hi).1
    have HFL := Lib.hid hfl
    clear h h1 h0 hfl hn
    go_enter Try.func54, Try.ntmps54
    go_wp2_with (at_builtin; refine wpList_append_own _ rfl _ _ 32 rfl w.heap.size 48 i0 (.agg #[.int .i64 0, .int .i64 0, .int .i64 0, .slice none 0 0]) 4 48 Try.underlying32 hi0 hz0 hz1 hz2 (by kernel_rfl) (by decide) _ _ _ rfl (World.ownsRow_made w #[] 0 (Nat.le_refl _) (Nat.zero_le _) (by simp)) x n c (flat f n) rfl ?qc1 ?qc2 ?qc3 ?qc4 ?qc5 ?qc6 ?_)
    case qc1 => exact HFL.out
    case qc2 => exact (H.out.below ((Below.refl _ _).alloc (Nat.le_refl _) _)).cells (by decide)
    case qc3 => intro u hu; obtain ⟨i, hi, hm⟩ := flat_mem hu; exact H1.out i hi u hm
    case qc4 => have := HN.out; rw [Nat.zero_add]; unfold maxLen; omega
    case qc5 => have := HN.out; rw [Nat.zero_add]; omega
    case qc6 => simp
    intro v' w1 hown hgrow hnil
    go_wp2_with fail
    go_ret
    refine ⟨v', rfl, by simpa using hown, ?_⟩
    exact ((Below.refl _ w).alloc (Nat.le_refl _) _).grown hgrow (by simp) (by intro k hk; simp [Value.ownBlock] at hk; omega)

set_option maxRecDepth 100000 in
set_option maxHeartbeats 1000000 in
theorem clone_block (a : Option Addr) (n c : Nat) (f : Nat → List Value) (w : World) (h : TabAt w a 11 n f) (h1 : ∀ i, i < n → ∀ u ∈ f i, u.oneCell' = true) (h0 : a = none → n = 0) (hn : n ≤ 100000) :
    Calls Try.prog 52 #[.slice a n c] w (ClonePost 37 11 n f w) := by
  have q22 : ∀ (w : World) (a : Option Addr) (n c n' c' : Nat), (binOp .eql 22 (.slice a n c) (.slice none n' c')).run Try.prog w = .ok (.bool a.isNone) w := fun w a n c n' c' => Lib.run_eql_slice_nil w _ _ a n c n' c' Try.underlying22
  obtain ⟨i0, hi0, hz0, hz1, hz2⟩ := info_parts infoBlock
  cases a with
  | none =>
    obtain rfl := h0 rfl
    clear h h1 h0 hn
    go_enter Try.func52, Try.ntmps52
    go_wp2_with fail
    go_ret
    exact ⟨_, rfl, World.ownsRow_nil _ _ _ _, Below.refl _ _⟩
  | some x =>
    have H := Lib.hid h
    have H1 := Lib.hid h1
    have HN := Lib.hid hn
    have hfl : (flat f n).length = n * 11 := flat_len fun i hi => (h i hi).1
    have HFL := Lib.hid hfl
    clear h h1 h0 hfl hn
    go_enter Try.func52, Try.ntmps52
    go_wp2_with (at_builtin; refine wpList_append_own _ rfl _ _ 22 rfl w.heap.size 37 i0 (.agg #[.int .i64 0, .int .i64 0, .bool false, .slice none 0 0, .int .i64 0, .int .i64 0, .slice none 0 0, .int .i64 0, .int .i64 0, .slice none 0 0, .int .i64 0]) 11 136 Try.underlying22 hi0 hz0 hz1 hz2 (by kernel_rfl) (by decide) _ _ _ rfl (World.ownsRow_made w #[] 0 (Nat.le_refl _) (Nat.zero_le _) (by simp)) x n c (flat f n) rfl ?qc1 ?qc2 ?qc3 ?qc4 ?qc5 ?qc6 ?_)
    case qc1 => exact HFL.out
    case qc2 => exact (H.out.below ((Below.refl _ _).alloc (Nat.le_refl _) _)).cells (by decide)
    case qc3 => intro u hu; obtain ⟨i, hi, hm⟩ := flat_mem hu; exact H1.out i hi u hm
    case qc4 => have := HN.out; rw [Nat.zero_add]; unfold maxLen; omega
    case qc5 => have := HN.out; rw [Nat.zero_add]; omega
    case qc6 => simp
    intro v' w1 hown hgrow hnil
    go_wp2_with fail
    go_ret
    refine ⟨v', rfl, by simpa using hown, ?_⟩
    exact ((Below.refl _ w).alloc (Nat.le_refl _) _).grown hgrow (by simp) (by intro k hk; simp [Value.ownBlock] at hk; omega)

end Go.Proofs.Yteiogjgmedikhaa
