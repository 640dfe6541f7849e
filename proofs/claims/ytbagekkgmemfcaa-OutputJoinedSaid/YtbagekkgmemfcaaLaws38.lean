/-
  What the functions of the packages output, cncref38 and cnclaw38 leave.
-/
import Derived.Test.YtbagekkgmemfcaaMod
import Derived.Test.YtbagekkgmemfcaaArgs
import Derived.Test.YtbagekkgmemfcaaHeld
namespace Go.Proofs.Ytbagekkgmemfcaa
open Go Go.RowKit
set_option linter.unusedVariables false

/-- The cells of an item. -/
structure ItemV (cs : List Value) (k n : Int) (on : Bool) : Prop where
  len : cs.length = 22
  kind : cs[0]? = some (.int .i64 k)
  num : cs[19]? = some (.int .i64 n)
  on : cs[21]? = some (.bool on)
  one : ∀ v ∈ cs, v.oneCell' = true

/-- The state behind an item. -/
def swV (s k n : Int) (on : Bool) : Int := if k ≠ 10 ∨ n < 0 ∨ n ≥ 16 then s else bits (if on then BinOp.or else BinOp.andNot) .i64 s (wrap64 (2 ^ n.toNat))
theorem swV_out {s k n : Int} {on : Bool} (h : k ≠ 10 ∨ n < 0 ∨ n ≥ 16) : swV s k n on = s := by unfold swV; rw [if_pos h]
theorem swV_off {s n : Int} (h2 : ¬ n < 0) (h3 : ¬ n ≥ 16) : swV s 10 n false = bits BinOp.andNot .i64 s (wrap64 (2 ^ n.toNat)) := by
  unfold swV; rw [if_neg (by omega)]; rfl
theorem swV_on {s n : Int} (h2 : ¬ n < 0) (h3 : ¬ n ≥ 16) : swV s 10 n true = bits BinOp.or .i64 s (wrap64 (2 ^ n.toNat)) := by
  unfold swV; rw [if_neg (by omega)]; rfl

theorem switch_any (s k n : Int) (on : Bool) (cs : List Value) (h : ItemV cs k n on) (w : World) :
    Calls Try.prog 9 #[.int .i64 s, .agg cs.toArray] w fun e w' => e = .returned (.int .i64 (swV s k n on)) ∧ w' = w.alloc (.cells cs.toArray 25) := by
  have h0 := h.kind
  have h19 := h.num
  have h21 := h.on
  have four : (k = 10 ∧ ¬ n < 0 ∧ ¬ n ≥ 16) ∨ (k = 10 ∧ n < 0) ∨ (k = 10 ∧ ¬ n < 0 ∧ n ≥ 16) ∨ k ≠ 10 := by omega
  rcases four with ⟨h1, h2, h3⟩ | ⟨h1, h2⟩ | ⟨h1, h2, h3⟩ | h1
  · subst h1
    cases on
    · go_enter Try.func9, Try.ntmps9
      go_wp2_with fail
      go_ret
      exact ⟨ret_int (swV_off (by omega) (by omega)).symm, rfl⟩
    · go_enter Try.func9, Try.ntmps9
      go_wp2_with fail
      go_ret
      exact ⟨ret_int (swV_on (by omega) (by omega)).symm, rfl⟩
  all_goals
    have e : swV s k n on = s := swV_out (by omega)
    have E := Lib.hid e
    clear e
    first | subst h1 | skip
    go_enter Try.func9, Try.ntmps9
    go_wp2_with fail
    go_ret
    exact ⟨ret_int E.out.symm, rfl⟩

theorem rswitch_any (s k n : Int) (on : Bool) (cs : List Value) (h : ItemV cs k n on) (w : World) :
    Calls Try.prog 10 #[.int .i64 s, .agg cs.toArray] w fun e w' => e = .returned (.int .i64 (swV s k n on)) ∧ w' = w.alloc (.cells cs.toArray 25) := by
  have h0 := h.kind
  have h19 := h.num
  have h21 := h.on
  have four : (k = 10 ∧ ¬ n < 0 ∧ ¬ n ≥ 16) ∨ (k = 10 ∧ n < 0) ∨ (k = 10 ∧ ¬ n < 0 ∧ n ≥ 16) ∨ k ≠ 10 := by omega
  rcases four with ⟨h1, h2, h3⟩ | ⟨h1, h2⟩ | ⟨h1, h2, h3⟩ | h1
  · subst h1
    cases on
    · go_enter Try.func10, Try.ntmps10
      go_wp2_with fail
      go_ret
      exact ⟨ret_int (swV_off (by omega) (by omega)).symm, rfl⟩
    · go_enter Try.func10, Try.ntmps10
      go_wp2_with fail
      go_ret
      exact ⟨ret_int (swV_on (by omega) (by omega)).symm, rfl⟩
  all_goals
    have e : swV s k n on = s := swV_out (by omega)
    have E := Lib.hid e
    clear e
    first | subst h1 | skip
    go_enter Try.func10, Try.ntmps10
    go_wp2_with fail
    go_ret
    exact ⟨ret_int E.out.symm, rfl⟩

theorem awake_true (w : World) : Calls Try.prog 7 #[] w fun e w' => e = .returned (.bool true) ∧ Below w.heap.size w w' := by
  have v : swV 5 10 1 true = 7 := by kernel_rfl
  have c := fun W => switch_any 5 10 1 true [.int .i64 10, .int .i64 0, .int .i64 0, .int .i64 0, .int .i64 0, .int .i64 0, .int .i64 0, .int .i64 0, .int .i64 0, .int .i64 0, .int .i64 0, .int .i64 0, .int .i64 0, .bool false, .int .i64 0, .bool false, .int .i64 0, .int .i64 0, .int .i64 0, .int .i64 1, .int .i64 0, .bool true]
    ⟨rfl, rfl, rfl, rfl, by simp [Value.oneCell']⟩ W
  rw [v] at c
  have C := Lib.hid c
  clear c v
  go_enter Try.func7, Try.ntmps7
  go_wp2_with (go_at_call 9; refine (C.out _).mono ?_; rintro e w' ⟨rfl, rfl⟩)
  go_ret
  exact ⟨rfl, by repeat (first | exact Below.refl _ _ | (refine below_drewN ?_ _) | (refine Below.alloc ?_ (by simp; try omega) _) | refine Below.drew ?_)⟩
/-- An item that came in. -/
theorem item_cells {w : World} {c : List Value} (h : Leaves w itemKs c) : ∃ k n on, ItemV c k n on := by
  have hl := h.len
  obtain ⟨v0, e0, l0⟩ := h.at 0 _ rfl
  obtain ⟨v1, e1, l1⟩ := h.at 19 _ rfl
  obtain ⟨v2, e2, l2⟩ := h.at 21 _ rfl
  obtain ⟨k, rfl, _⟩ := l0.num
  obtain ⟨n, rfl, _⟩ := l1.num
  obtain ⟨b, rfl⟩ := l2.flag
  exact ⟨k, n, b, hl, e0, e1, e2, h.one⟩
/-- Two items, and nothing old has turned. -/
structure Two (B : Nat) (w0 : World) (g g' : Nat) (cs cs' : List Value) (w : World) : Prop where
  one : Blk w g 25 cs.toArray
  two : Blk w g' 25 cs'.toArray
  bel : Below B w0 w
  size : B ≤ w.heap.size
section
variable {B : Nat} {w0 w w' : World} {g g' : Nat} {cs cs' : List Value}
theorem Two.alloc (h : Two B w0 g g' cs cs' w) (o : Obj) : Two B w0 g g' cs cs' (w.alloc o) := ⟨h.one.alloc o, h.two.alloc o, h.bel.alloc h.size o, Nat.le_trans h.size (by simp)⟩
theorem Two.drew (h : Two B w0 g g' cs cs' w) : Two B w0 g g' cs cs' w.drew := ⟨h.one.drew, h.two.drew, h.bel.drew, h.size⟩
theorem Two.put (h : Two B w0 g g' cs cs' w) (hg : g ≠ g') (hB : B ≤ g') (i : Nat) (u : Value) : Two B w0 g g' cs (cs'.set i u) (w.setCell ⟨g', i, none⟩ u) :=
  ⟨h.one.far hg u, by have := h.two.put i u; simpa using this, h.bel.trans ⟨rfl, rfl, rfl, by simp, fun k hk => Below.heap_setCell _ _ _ _ (by simp; omega)⟩, by simpa using h.size⟩
end
end Go.Proofs.Ytbagekkgmemfcaa
