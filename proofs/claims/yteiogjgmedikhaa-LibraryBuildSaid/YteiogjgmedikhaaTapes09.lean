/-
  cncmake.Mod.
  The tape: cncmake.New, Next and Range. Any list of numbers.
  cncstage: what Number, Variable, Expr, Block, called and Flowing make of a tape, in plain words; Number and Variable walked. No condition.
-/
import Derived.Test.YteiogjgmedikhaaBase
import Derived.Test.YteiogjgmedikhaaChecked
import Derived.Test.YteiogjgmedikhaaHeldBy
import Derived.Test.YteiogjgmedikhaaHeld
import Derived.Test.YteiogjgmedikhaaPlan09
namespace Go.Proofs.Yteiogjgmedikhaa
open Go Go.RowKit
set_option linter.unusedVariables false

theorem tmod_bd (v n : Int) (h : 1 ≤ n) : -n < v.tmod n ∧ v.tmod n < n := by
  have h0 := Int.emod_nonneg v (show n ≠ 0 by omega)
  have h1 := Int.emod_lt_of_pos v (show 0 < n by omega)
  rw [Int.tmod_eq_emod]
  split <;> omega
theorem tmod_emod (v n : Int) (h : 1 ≤ n) : (v.tmod n < 0 → v.tmod n + n = v % n) ∧ (¬ v.tmod n < 0 → v.tmod n = v % n) := by
  have h0 := Int.emod_nonneg v (show n ≠ 0 by omega)
  have h1 := Int.emod_lt_of_pos v (show 0 < n by omega)
  rw [Int.tmod_eq_emod]
  split <;> omega
theorem mod_any (v n : Int) (w : World) (h : 1 ≤ n) (hn : n ≤ 9007199254740992) :
    Calls Try.prog 19 #[.int .i64 v, .int .i64 n] w fun e w' => e = .returned (.int .i64 (v % n)) ∧ w = w' := by
  obtain ⟨h3, h4⟩ := tmod_emod v n h
  obtain ⟨h1, h2⟩ := tmod_bd v n h
  have d0 : (n == 0) = false := by simp; omega
  by_cases hr : v.tmod n < 0
  · have H := Lib.hid (h3 hr)
    clear h3 h4
    go_enter Try.func19, Try.ntmps19
    go_wp2
    go_ret
    exact ⟨ret_int H.out, rfl⟩
  · have H := Lib.hid (h4 hr)
    clear h3 h4
    go_enter Try.func19, Try.ntmps19
    go_wp2
    go_ret
    exact ⟨ret_int H.out, rfl⟩
end Go.Proofs.Yteiogjgmedikhaa

namespace Go.Proofs.Yteiogjgmedikhaa
open Go Go.RowKit
set_option linter.unusedVariables false

/-- A list of numbers. -/
structure Tp where
  n : Nat
  z : Nat → Int
/-- What Next returns, and how many numbers are used up behind it. -/
def nextF (T : Tp) (k : Nat) (m : Int) : Int × Nat := if k < T.n then (T.z k % m, k + 1) else (0, k)
theorem nextF_lo (T : Tp) (k : Nat) {m : Int} (h : 1 ≤ m) : 0 ≤ (nextF T k m).1 := by
  unfold nextF; split
  · exact Int.emod_nonneg _ (by omega)
  · simp
theorem nextF_hi (T : Tp) (k : Nat) {m : Int} (h : 1 ≤ m) : (nextF T k m).1 < m := by
  unfold nextF; split
  · exact Int.emod_lt_of_pos _ (by omega)
  · simp; omega
def rangeF (T : Tp) (k : Nat) (lo hi : Int) : Int × Nat := (lo + (nextF T k (hi - lo + 1)).1, (nextF T k (hi - lo + 1)).2)
theorem rangeF_lo (T : Tp) (k : Nat) {lo hi : Int} (h : lo ≤ hi) : lo ≤ (rangeF T k lo hi).1 := by
  have := nextF_lo T k (m := hi - lo + 1) (by omega)
  unfold rangeF; simp; omega
theorem rangeF_hi (T : Tp) (k : Nat) {lo hi : Int} (h : lo ≤ hi) : (rangeF T k lo hi).1 ≤ hi := by
  have := nextF_hi T k (m := hi - lo + 1) (by omega)
  unfold rangeF; simp; omega
/-- The source in block g: a slice, and how many numbers are used up; the numbers lie below block B. -/
structure Src (w : World) (B g : Nat) (a : Option Addr) (c : Nat) (T : Tp) (k : Nat) : Prop where
  blk : Blk w g 63 #[.slice a T.n c, .int .i64 k]
  old : B ≤ g
  used : k ≤ T.n
  most : T.n ≤ 9223372036854775807
  num : ∀ i, i < T.n → ∃ b o, a = some ⟨b, o, none⟩ ∧ b < B ∧ w.cell? ⟨b, o + i, none⟩ = some (.int .i64 (T.z i))
section
variable {w w' : World} {B g c k : Nat} {a : Option Addr} {T : Tp}
theorem Src.lt (h : Src w B g a c T k) : g < w.heap.size := h.blk.lt
theorem Src.keep (h : Src w B g a c T k) (hb : w'.heap[g]? = w.heap[g]?) (hc : ∀ p : Addr, p.block < B → w'.cell? p = w.cell? p) : Src w' B g a c T k :=
  ⟨hb.trans h.blk, h.old, h.used, h.most, fun i hi => by
    obtain ⟨b, o, e, hlt, hcell⟩ := h.num i hi
    exact ⟨b, o, e, hlt, (hc _ hlt).trans hcell⟩⟩
theorem Src.drewN (h : Src w B g a c T k) (q : Nat) : Src (w.drewN q) B g a c T k := h.keep rfl fun _ _ => rfl
theorem Src.drew (h : Src w B g a c T k) : Src w.drew B g a c T k := h.keep rfl fun _ _ => rfl
theorem Src.alloc (h : Src w B g a c T k) (o : Obj) : Src (w.alloc o) B g a c T k :=
  h.keep (Below.heap_alloc w o g h.lt) fun p hp => World.cell?_alloc_lt w o p (by have := h.lt; have := h.old; omega)
theorem Src.setCell (h : Src w B g a c T k) {p : Addr} (hp : B ≤ p.block) (hg : p.block ≠ g) (u : Value) : Src (w.setCell p u) B g a c T k :=
  h.keep (Below.heap_setCell w p u g (Ne.symm hg)) fun q hq => World.cell?_setCell_other w p q u (fun e => by subst e; omega)
theorem Src.next (h : Src w B g a c T k) (hk : k < T.n) : Src (w.setCell ⟨g, 1, none⟩ (.int .i64 ((k + 1 : Nat) : Int))) B g a c T (k + 1) :=
  ⟨h.blk.put 1 _, h.old, hk, h.most, fun i hi => by
    obtain ⟨b, o, e, hlt, hcell⟩ := h.num i hi
    exact ⟨b, o, e, hlt, (World.cell?_setCell_other w ⟨g, 1, none⟩ _ _ (fun e => by injection e with e _ _; have := h.old; omega)).trans hcell⟩⟩
theorem Src.setRow (h : Src w B g a c T k) {g' : Nat} (hp : B ≤ g') (hg : g' ≠ g) (cs : Array Value) : Src (w.setRow g' cs) B g a c T k :=
  h.keep (setRow_other w g' g cs (Ne.symm hg)) fun q hq => cell_setRow_other w g' cs q (by omega)
/-- Only the source may have turned, and what is new. -/
theorem Src.grown (h : Src w B g a c T k) (hg : w.grownBy w' none) : Src w' B g a c T k :=
  h.keep (hg.block g h.lt (by simp)) fun p hp => World.cell?_of_block (hg.block p.block (by have := h.lt; have := h.old; omega) (by simp))
end

theorem next_end (w : World) (B g : Nat) (a : Option Addr) (n c k : Nat) (z : Nat → Int) (m : Int) (hs : Src w B g a c ⟨n, z⟩ k) (hk : n ≤ k) :
    Calls Try.prog 20 #[.pointer (some ⟨g, 0, none⟩), .int .i64 m] w fun e w' => e = .returned (.int .i64 0) ∧ ∃ q, w' = w.drewN q := by
  have c0 : w.cell? ⟨g, 0, none⟩ = some (.slice a n c) := hs.blk.cell 0
  have c1 : w.cell? ⟨g, 1, none⟩ = some (.int .i64 k) := hs.blk.cell 1
  have d1 : decide (n ≤ k) = true := by simpa using hk
  clear hs
  go_enter Try.func20, Try.ntmps20
  go_wp2_with fail
  go_quiet (fail)
  go_wp2
  go_ret
  exact ⟨rfl, _, rfl⟩
set_option maxRecDepth 100000 in
theorem next_more (w : World) (B g : Nat) (a : Option Addr) (n c k : Nat) (z : Nat → Int) (m : Int) (hs : Src w B g a c ⟨n, z⟩ k) (hk : k < n) (h : 1 ≤ m) (hm : m ≤ 9007199254740992) :
    Calls Try.prog 20 #[.pointer (some ⟨g, 0, none⟩), .int .i64 m] w fun e w' => e = .returned (.int .i64 (z k % m)) ∧ ∃ q q', w' = ((w.drewN q).setCell ⟨g, 1, none⟩ (.int .i64 ((k + 1 : Nat) : Int))).drewN q' := by
  have hn : n ≤ 9223372036854775807 := hs.most
  have hku : k ≤ n := hs.used
  have hs1 := hs.next hk
  obtain ⟨b, o, rfl, hb, hc⟩ := hs.num k hk
  have hc2 : (w.setCell ⟨g, 1, none⟩ (.int .i64 ((k + 1 : Nat) : Int))).cell? ⟨b, o + k, none⟩ = some (.int .i64 (z k)) := by
    obtain ⟨b', o', e, _, hc'⟩ := hs1.num k hk
    injection e with e
    injection e with e1 e2
    subst e1
    subst e2
    exact hc'
  have c0 : w.cell? ⟨g, 0, none⟩ = some (.slice (some ⟨b, o, none⟩) n c) := hs.blk.cell 0
  have c1 : w.cell? ⟨g, 1, none⟩ = some (.int .i64 k) := hs.blk.cell 1
  have f1 : w.frozen? ⟨g, 1, none⟩ = false := hs.blk.frozen 1
  have c0' : (w.setCell ⟨g, 1, none⟩ (.int .i64 ((k + 1 : Nat) : Int))).cell? ⟨g, 0, none⟩ = some (.slice (some ⟨b, o, none⟩) n c) := hs1.blk.cell 0
  have c1' : (w.setCell ⟨g, 1, none⟩ (.int .i64 ((k + 1 : Nat) : Int))).cell? ⟨g, 1, none⟩ = some (.int .i64 ((k + 1 : Nat) : Int)) := hs1.blk.cell 1
  rw [Int.natCast_succ] at hc2 c0' c1'
  have HC := Lib.hid (And.intro c0' (And.intro c1' hc2))
  have KM := Lib.hid (fun W => mod_any (z k) m W h hm)
  clear hs hs1 hc2 c0' c1' hc
  have i0 : (0 : Int) ≤ (k : Int) := by omega
  have i1 : (k : Int) < (n : Int) := by omega
  have i2 : (k : Int) + 1 - 1 = (k : Int) := by omega
  have i3 : IntKind.i64.wrap ((k : Int) + 1 - 1) = (k : Int) := by rw [IntKind.wrap_i64]; omega
  have i4 : IntKind.i64.wrap (k : Int) = (k : Int) := by rw [IntKind.wrap_i64]; omega
  have d1 : decide (n ≤ k) = false := by simp; omega
  go_enter Try.func20, Try.ntmps20
  go_wp2_with fail
  go_quiet (fail)
  go_wp2_with fail
  refine wp_region_held_drew (S := fun w' => w'.cell? ⟨g, 0, none⟩ = some (.slice (some ⟨b, o, none⟩) n c) ∧ w'.cell? ⟨g, 1, none⟩ = some (.int .i64 ((k : Int) + 1)) ∧ w'.cell? ⟨b, o + k, none⟩ = some (.int .i64 (z k))) (by kernel_rfl) HC.out fun hS0 => ?_
  refine take_first 0 (v := .pointer (some ⟨g, 0, none⟩)) rfl (by kernel_rfl) (by kernel_rfl) (by kernel_rfl) (fun _ _ _ h => h) rfl (fun W' hW' => by go_simp) hS0 ?_
  refine take_first 1 (v := .pointer (some ⟨g, 0, none⟩)) rfl (by kernel_rfl) (by kernel_rfl) (by kernel_rfl) (fun _ _ _ h => h) rfl (fun W' hW' => by go_simp) hS0 ?_
  refine take_first 2 (v := .pointer (some ⟨g, 0, none⟩)) rfl (by kernel_rfl) (by kernel_rfl) (by kernel_rfl) (fun _ _ _ h => h) rfl (fun W' hW' => by go_simp) hS0 ?_
  refine take_first 3 (v := .slice (some ⟨b, o, none⟩) n c) rfl (by kernel_rfl) (by kernel_rfl) (by kernel_rfl) (fun _ _ _ h => h) rfl (fun W' hW' => by obtain ⟨q0, q1, q2⟩ := hW'; go_simp) hS0 ?_
  refine take_first 4 (v := .pointer (some ⟨g, 0, none⟩)) rfl (by kernel_rfl) (by kernel_rfl) (by kernel_rfl) (fun _ _ _ h => h) rfl (fun W' hW' => by go_simp) hS0 ?_
  refine take_first 5 (v := .pointer (some ⟨g, 0, none⟩)) rfl (by kernel_rfl) (by kernel_rfl) (by kernel_rfl) (fun _ _ _ h => h) rfl (fun W' hW' => by go_simp) hS0 ?_
  refine take_first 6 (v := .pointer (some ⟨g, 1, none⟩)) rfl (by kernel_rfl) (by kernel_rfl) (by kernel_rfl) (fun _ _ _ h => h) rfl (fun W' hW' => by go_simp) hS0 ?_
  refine take_first 7 (v := .int .i64 ((k : Int) + 1)) rfl (by kernel_rfl) (by kernel_rfl) (by kernel_rfl) (fun _ _ _ h => h) rfl (fun W' hW' => by obtain ⟨q0, q1, q2⟩ := hW'; go_simp) hS0 ?_
  refine take_first 8 (v := .int .i64 k) rfl (by kernel_rfl) (by kernel_rfl) (by kernel_rfl) (fun _ _ _ h => h) rfl (fun W' hW' => by go_simp) hS0 ?_
  refine take_first 9 (v := .pointer (some ⟨b, o + k, none⟩)) rfl (by kernel_rfl) (by kernel_rfl) (by kernel_rfl) (fun _ _ _ h => h) rfl (fun W' hW' => by go_simp) hS0 ?_
  refine take_first 10 (v := .int .i64 (z k)) rfl (by kernel_rfl) (by kernel_rfl) (by kernel_rfl) (fun _ _ _ h => h) rfl (fun W' hW' => by obtain ⟨q0, q1, q2⟩ := hW'; go_simp) hS0 ?_
  refine take_first 11 (v := .int .i64 m) rfl (by kernel_rfl) (by kernel_rfl) (by kernel_rfl) (fun _ _ _ h => h) rfl (fun W' hW' => by go_simp) hS0 ?_
  refine one_next 12 (by kernel_rfl) rfl rfl fun K12 hK12 => ?_
  have HK12 := Lib.hid hK12
  clear hK12
  go_simp
  refine (KM.out _).mono ?_
  rintro e w' ⟨rfl, rfl⟩
  refine HK12.out _ _ hS0 ?_
  refine one_next 13 (by kernel_rfl) rfl rfl fun K13 hK13 => ?_
  have HK13 := Lib.hid hK13
  clear hK13
  go_simp
  refine HK13.out _ _ hS0 ?_
  refine wpAnyH_done (by kernel_rfl) ?_ _
  clear HK12 HK13 hS0 HC
  go_simp
  go_wp2_with fail
  go_ret
  refine ⟨rfl, ?_⟩
  rw [Int.natCast_succ]
  exact ⟨_, 1, rfl⟩


theorem Src.turn {w w' : World} {B g c k : Nat} {a : Option Addr} {T : Tp} (h : Src w B g a c T k) (hg : w.grownBy w' (some g)) (hb : Blk w' g 63 #[.slice a T.n c, .int .i64 (k : Nat)]) : Src w' B g a c T k :=
  h.keep (hb.trans h.blk.symm) fun p hp => World.cell?_of_block (hg.block p.block (by have := h.lt; have := h.old; omega) (by have := h.old; simp; omega))
/-- The tape goes on to k', and nothing else that was there has turned. -/
structure Took (B g : Nat) (a : Option Addr) (c : Nat) (T : Tp) (w : World) (k' : Nat) (w' : World) : Prop where
  src : Src w' B g a c T k'
  grown : w.grownBy w' (some g)
theorem next_any (w : World) (B g : Nat) (a : Option Addr) (c : Nat) (T : Tp) (k : Nat) (m : Int) (hs : Src w B g a c T k) (h : 1 ≤ m) (hm : m ≤ 9007199254740992) :
    Calls Try.prog 20 #[.pointer (some ⟨g, 0, none⟩), .int .i64 m] w fun e w' => e = .returned (.int .i64 (nextF T k m).1) ∧ Took B g a c T w (nextF T k m).2 w' := by
  obtain ⟨n, z⟩ := T
  unfold nextF
  rcases Nat.lt_or_ge k n with hk | hk
  · rw [if_pos hk]
    refine (next_more w B g a n c k z m hs hk h hm).mono ?_
    rintro e w' ⟨rfl, q, q', rfl⟩
    exact ⟨rfl, ((hs.drewN q).next hk).drewN q', grown_drewN (grown_setCell (grown_drewN (grown_refl _ _) q) (.inl rfl) _) q'⟩
  · rw [if_neg (by show ¬ k < n; omega)]
    refine (next_end w B g a n c k z m hs hk).mono ?_
    rintro e w' ⟨rfl, q, rfl⟩
    exact ⟨rfl, hs.drewN q, grown_drewN (grown_refl _ _) q⟩
theorem range_any (w : World) (B g : Nat) (a : Option Addr) (c : Nat) (T : Tp) (k : Nat) (lo hi : Int) (hs : Src w B g a c T k) (h : lo ≤ hi) (h0 : 0 ≤ lo) (hm : hi ≤ 1125899906842624) :
    Calls Try.prog 36 #[.pointer (some ⟨g, 0, none⟩), .int .i64 lo, .int .i64 hi] w fun e w' => e = .returned (.int .i64 (rangeF T k lo hi).1) ∧ Took B g a c T w (rangeF T k lo hi).2 w' := by
  have KN := Lib.hid (next_any w B g a c T k (hi - lo + 1) hs (by omega) (by omega))
  have h1 := nextF_lo T k (m := hi - lo + 1) (by omega)
  have h2 := nextF_hi T k (m := hi - lo + 1) (by omega)
  unfold rangeF
  generalize nextF T k (hi - lo + 1) = r at *
  clear hs
  go_enter Try.func36, Try.ntmps36
  go_wp2_with fail
  refine KN.out.mono ?_
  rintro e w' ⟨rfl, ht⟩
  go_wp2_with fail
  go_ret
  exact ⟨rfl, ht⟩
theorem tape_new (w : World) (a : Option Addr) (n c : Nat) (z : List Int) (hz : IsRow .i64 w a n c z) (hn : n ≤ 9223372036854775807) :
    Calls Try.prog 17 #[.slice a n c] w fun e w' => e = .returned (.pointer (some ⟨w.heap.size, 0, none⟩)) ∧ Src w' w.heap.size w.heap.size a c ⟨n, fun i => z.getD i 0⟩ 0 ∧ Below w.heap.size w w' := by
  have hs : Src (w.alloc (.cells #[.slice a n c, .int .i64 0] 63)) w.heap.size w.heap.size a c ⟨n, fun i => z.getD i 0⟩ 0 :=
    ⟨Blk.new w _ _, Nat.le_refl _, by simp, hn, fun i hi => by
      obtain ⟨b, o, e, hlt, hc⟩ := hz.num i hi
      exact ⟨b, o, e, hlt, (World.cell?_alloc_lt w _ _ hlt).trans hc⟩⟩
  have bel := (Below.refl w.heap.size w).alloc (Nat.le_refl _) (.cells #[.slice a n c, .int .i64 0] 63)
  have HS := Lib.hid hs
  clear hs hz
  go_enter Try.func17, Try.ntmps17
  go_wp2_with fail
  go_ret
  exact ⟨rfl, HS.out, bel⟩
theorem light_any (w : World) (a : Option Addr) (n c : Nat) : Calls Try.prog 13 #[.slice a n c] w fun e w' => e = .returned (.bool (decide (n ≤ 120))) ∧ w = w' := by
  go_enter Try.func13, Try.ntmps13
  go_wp2_with fail
  go_ret
  exact ⟨by simp; omega, rfl⟩
end Go.Proofs.Yteiogjgmedikhaa

namespace Go.Proofs.Yteiogjgmedikhaa
open Go Go.RowKit
set_option linter.unusedVariables false
set_option linter.unusedSimpArgs false

def numberF (T : Tp) (k : Nat) : Int × Nat :=
  if (nextF T k 8).1 = 0 then nextF T (nextF T k 8).2 1000000000000000
  else if (nextF T k 8).1 = 1 then ((nextF T (nextF T k 8).2 1000000).1 * 100, (nextF T (nextF T k 8).2 1000000).2)
  else if (nextF T k 8).1 = 2 ∨ (nextF T k 8).1 = 3 then ((nextF T (nextF T k 8).2 40).1 * 250000, (nextF T (nextF T k 8).2 40).2)
  else ((nextF T (nextF T k 8).2 12).1 * 1000000, (nextF T (nextF T k 8).2 12).2)
def variableF (T : Tp) (k : Nat) : Int × Nat :=
  if (nextF T k 12).1 = 0 then rangeF T (nextF T k 12).2 0 40
  else if (nextF T k 12).1 = 1 then (5000 + (nextF T (nextF T k 12).2 80).1, (nextF T (nextF T k 12).2 80).2)
  else if (nextF T k 12).1 ≤ 5 then (100 + (nextF T (nextF T k 12).2 4).1, (nextF T (nextF T k 12).2 4).2)
  else rangeF T (nextF T k 12).2 1 5
theorem numberF_bd (T : Tp) (k : Nat) : 0 ≤ (numberF T k).1 ∧ (numberF T k).1 < 1000000000000000 := by
  have h1 := nextF_lo T (nextF T k 8).2 (m := 1000000000000000) (by decide)
  have h2 := nextF_hi T (nextF T k 8).2 (m := 1000000000000000) (by decide)
  have h3 := nextF_lo T (nextF T k 8).2 (m := 1000000) (by decide)
  have h4 := nextF_hi T (nextF T k 8).2 (m := 1000000) (by decide)
  have h5 := nextF_lo T (nextF T k 8).2 (m := 40) (by decide)
  have h6 := nextF_hi T (nextF T k 8).2 (m := 40) (by decide)
  have h7 := nextF_lo T (nextF T k 8).2 (m := 12) (by decide)
  have h8 := nextF_hi T (nextF T k 8).2 (m := 12) (by decide)
  unfold numberF
  repeat' split
  all_goals (try simp only); omega
theorem variableF_bd (T : Tp) (k : Nat) : 0 ≤ (variableF T k).1 ∧ (variableF T k).1 < 10000 := by
  have h1 := rangeF_lo T (nextF T k 12).2 (lo := 0) (hi := 40) (by decide)
  have h2 := rangeF_hi T (nextF T k 12).2 (lo := 0) (hi := 40) (by decide)
  have h3 := nextF_lo T (nextF T k 12).2 (m := 80) (by decide)
  have h4 := nextF_hi T (nextF T k 12).2 (m := 80) (by decide)
  have h5 := nextF_lo T (nextF T k 12).2 (m := 4) (by decide)
  have h6 := nextF_hi T (nextF T k 12).2 (m := 4) (by decide)
  have h7 := rangeF_lo T (nextF T k 12).2 (lo := 1) (hi := 5) (by decide)
  have h8 := rangeF_hi T (nextF T k 12).2 (lo := 1) (hi := 5) (by decide)
  unfold variableF
  repeat' split
  all_goals (try simp only); omega
def fnOps : List Int := [2, 8, 9, 10, 12, 13, 14, 15, 16]
def opOps : List Int := [3, 4, 5, 6, 7, 11, 17, 18, 19, 20, 21, 22, 23, 24, 25, 3, 4, 5]
def leafE (n : Int) : Ex := .mk 0 n []
def exprF (T : Tp) : Nat → Nat → Ex × Nat
  | 0, k => (leafE (numberF T (nextF T k 10).2).1, (numberF T (nextF T k 10).2).2)
  | d + 1, k =>
    if d + 1 < 2 ∨ (nextF T k 10).1 < 3 then (leafE (numberF T (nextF T k 10).2).1, (numberF T (nextF T k 10).2).2)
    else if (nextF T k 10).1 < 5 then
      if (nextF T (variableF T (nextF T k 10).2).2 8).1 = 0 then
        (.mk 1 0 [(exprF T d (nextF T (variableF T (nextF T k 10).2).2 8).2).1], (exprF T d (nextF T (variableF T (nextF T k 10).2).2 8).2).2)
      else (.mk 1 0 [leafE ((variableF T (nextF T k 10).2).1 * 1000000)], (nextF T (variableF T (nextF T k 10).2).2 8).2)
    else if (nextF T k 10).1 < 6 then
      (.mk (fnOps.getD (nextF T (nextF T k 10).2 9).1.toNat 0) 0 [(exprF T d (nextF T (nextF T k 10).2 9).2).1], (exprF T d (nextF T (nextF T k 10).2 9).2).2)
    else
      (.mk (opOps.getD (nextF T (nextF T k 10).2 18).1.toNat 0) 0 [(exprF T d (nextF T (nextF T k 10).2 18).2).1, (exprF T d (exprF T d (nextF T (nextF T k 10).2 18).2).2).1],
        (exprF T d (exprF T d (nextF T (nextF T k 10).2 18).2).2).2)
theorem getD_mem {l : List Int} {i : Nat} (h : i < l.length) : l.getD i 0 ∈ l := by simp [List.getD, h]
theorem right_leaf (m : Nat) {n : Int} (h : 0 ≤ n ∧ n < 1000000000000000) : rightE (m + 1) (leafE n) = true := by
  unfold leafE rightE
  rw [if_neg (by simp [kidsN]), if_pos rfl, decide_eq_true h]
theorem right_one (m : Nat) {op : Int} {x : Ex} (ho : op ∈ fnOps ∨ op = 1) (hx : rightE m x = true) : rightE (m + 1) (.mk op 0 [x]) = true := by
  have h1 : kidsN op = 1 := by
    unfold fnOps at ho
    simp only [List.mem_cons, List.not_mem_nil, or_false] at ho
    rcases ho with (h | h | h | h | h | h | h | h | h) | h <;> subst h <;> rfl
  have h0 : op ≠ 0 := by intro e; subst e; simp [kidsN] at h1
  unfold rightE
  rw [if_neg (by simp [h1]), if_neg h0]
  simp [hx]
theorem right_two (m : Nat) {op : Int} {x y : Ex} (ho : op ∈ opOps) (hx : rightE m x = true) (hy : rightE m y = true) : rightE (m + 1) (.mk op 0 [x, y]) = true := by
  have h1 : kidsN op = 2 := by
    unfold opOps at ho
    simp only [List.mem_cons, List.not_mem_nil, or_false] at ho
    rcases ho with h | h | h | h | h | h | h | h | h | h | h | h | h | h | h | h | h | h <;> subst h <;> rfl
  have h0 : op ≠ 0 := by intro e; subst e; simp [kidsN] at h1
  unfold rightE
  rw [if_neg (by simp [h1]), if_neg h0]
  simp [hx, hy]
theorem exprF_right (T : Tp) : ∀ (d m k : Nat), d ≤ m → rightE (m + 1) (exprF T d k).1 = true
  | 0, m, k, _ => by unfold exprF; exact right_leaf m (numberF_bd _ _)
  | d + 1, 0, k, h => by omega
  | d + 1, m + 1, k, h => by
    have h1 := nextF_lo T (nextF T k 10).2 (m := 9) (by decide)
    have h2 := nextF_hi T (nextF T k 10).2 (m := 9) (by decide)
    have h3 := nextF_lo T (nextF T k 10).2 (m := 18) (by decide)
    have h4 := nextF_hi T (nextF T k 10).2 (m := 18) (by decide)
    unfold exprF
    split
    · exact right_leaf _ (numberF_bd _ _)
    split
    · split
      · exact right_one _ (.inr rfl) (exprF_right T d m _ (by omega))
      · refine right_one _ (.inr rfl) (right_leaf _ ?_)
        have := variableF_bd T (nextF T k 10).2
        omega
    split
    · exact right_one _ (.inl (getD_mem (by show _ < 9; omega))) (exprF_right T d m _ (by omega))
    · exact right_two _ (getD_mem (by show _ < 18; omega)) (exprF_right T d m _ (by omega)) (exprF_right T d m _ (by omega))

set_option maxRecDepth 100000 in
theorem number_any (w : World) (B g : Nat) (a : Option Addr) (c : Nat) (T : Tp) (k : Nat) (hs : Src w B g a c T k) :
    Calls Try.prog 48 #[.pointer (some ⟨g, 0, none⟩)] w fun e w' => e = .returned (.int .i64 (numberF T k).1) ∧ Took B g a c T w (numberF T k).2 w' := by
  have K0 := Lib.hid (next_any w B g a c T k 8 hs (by decide) (by decide))
  have KN := Lib.hid (fun W (hW : Src W B g a c T (nextF T k 8).2) (m : Int) (h : 1 ≤ m) (hm : m ≤ 9007199254740992) => next_any W B g a c T _ m hW h hm)
  have KR := Lib.hid (fun W (hW : Src W B g a c T (nextF T k 8).2) (lo hi : Int) (h : lo ≤ hi) (h0 : 0 ≤ lo) (hm : hi ≤ 1125899906842624) => range_any W B g a c T _ lo hi hW h h0 hm)
  have h1 := nextF_lo T k (m := 8) (by decide)
  have h2 := nextF_hi T k (m := 8) (by decide)
  have n1 := nextF_lo T (nextF T k 8).2 (m := 1000000) (by decide)
  have n2 := nextF_hi T (nextF T k 8).2 (m := 1000000) (by decide)
  have n3 := nextF_lo T (nextF T k 8).2 (m := 40) (by decide)
  have n4 := nextF_hi T (nextF T k 8).2 (m := 40) (by decide)
  have n5 := nextF_lo T (nextF T k 8).2 (m := 12) (by decide)
  have n6 := nextF_hi T (nextF T k 8).2 (m := 12) (by decide)
  have hF := numberF.eq_1 T k
  generalize nextF T k 8 = s at *
  obtain ⟨v, k1⟩ := s
  dsimp only at *
  have HF := Lib.hid hF
  clear hs hF
  go_enter Try.func48, Try.ntmps48
  go_wp2_with fail
  refine K0.out.mono ?_
  rintro e w1 ⟨rfl, t1⟩
  have T1 := Lib.hid t1
  clear t1
  have KM := Lib.hid (KN.out w1 T1.out.src)
  have KS := Lib.hid (KR.out w1 T1.out.src)
  by_cases e0 : v = 0
  · subst e0
    have f0 : ((0 : Int) == 0) = true := rfl
    go_wp2_with fail
    refine (KM.out 1000000000000000 (by decide) (by decide)).mono ?_
    rintro e w2 ⟨rfl, t2⟩
    have t2 := Took.mk t2.src (grown_trans T1.out.grown t2.grown)
    generalize hq : nextF T k1 1000000000000000 = q at *
    obtain ⟨q, k2⟩ := q
    dsimp only at *
    have T2 := Lib.hid t2
    clear t2 hq
    go_wp2_with fail
    go_ret
    have hF := HF.out
    simp only [if_true] at hF
    rw [hF]
    exact ⟨rfl, T2.out⟩
  have f0 : (v == 0) = false := by simpa using e0
  by_cases e1 : v = 1
  · subst e1
    go_wp2_with fail
    refine (KM.out 1000000 (by decide) (by decide)).mono ?_
    rintro e w2 ⟨rfl, t2⟩
    have t2 := Took.mk t2.src (grown_trans T1.out.grown t2.grown)
    generalize hq : nextF T k1 1000000 = q at *
    obtain ⟨q, k2⟩ := q
    dsimp only at *
    have T2 := Lib.hid t2
    clear t2 hq
    go_wp2_with fail
    go_ret
    have hF := HF.out
    simp only [e0, if_true, if_false] at hF
    rw [hF]
    exact ⟨rfl, T2.out⟩
  have f1 : (v == 1) = false := by simpa using e1
  by_cases e2 : v = 2
  · subst e2
    go_wp2_with fail
    refine (KM.out 40 (by decide) (by decide)).mono ?_
    rintro e w2 ⟨rfl, t2⟩
    have t2 := Took.mk t2.src (grown_trans T1.out.grown t2.grown)
    generalize hq : nextF T k1 40 = q at *
    obtain ⟨q, k2⟩ := q
    dsimp only at *
    have T2 := Lib.hid t2
    clear t2 hq
    go_wp2_with fail
    go_ret
    have hF := HF.out
    simp only [e0, e1, true_or, or_true, if_true, if_false] at hF
    rw [hF]
    exact ⟨rfl, T2.out⟩
  have f2 : (v == 2) = false := by simpa using e2
  by_cases e3 : v = 3
  · subst e3
    go_wp2_with fail
    refine (KM.out 40 (by decide) (by decide)).mono ?_
    rintro e w2 ⟨rfl, t2⟩
    have t2 := Took.mk t2.src (grown_trans T1.out.grown t2.grown)
    generalize hq : nextF T k1 40 = q at *
    obtain ⟨q, k2⟩ := q
    dsimp only at *
    have T2 := Lib.hid t2
    clear t2 hq
    go_wp2_with fail
    go_ret
    have hF := HF.out
    simp only [e0, e1, true_or, or_true, if_true, if_false] at hF
    rw [hF]
    exact ⟨rfl, T2.out⟩
  have f3 : (v == 3) = false := by simpa using e3
  go_wp2_with fail
  refine (KM.out 12 (by decide) (by decide)).mono ?_
  rintro e w2 ⟨rfl, t2⟩
  have t2 := Took.mk t2.src (grown_trans T1.out.grown t2.grown)
  generalize hq : nextF T k1 12 = q at *
  obtain ⟨q, k2⟩ := q
  dsimp only at *
  have T2 := Lib.hid t2
  clear t2 hq
  go_wp2_with fail
  go_ret
  have hF := HF.out
  rw [if_neg e0, if_neg e1, if_neg (by omega)] at hF
  rw [hF]
  exact ⟨rfl, T2.out⟩
set_option maxRecDepth 100000 in
theorem variable_any (w : World) (B g : Nat) (a : Option Addr) (c : Nat) (T : Tp) (k : Nat) (hs : Src w B g a c T k) :
    Calls Try.prog 45 #[.pointer (some ⟨g, 0, none⟩)] w fun e w' => e = .returned (.int .i64 (variableF T k).1) ∧ Took B g a c T w (variableF T k).2 w' := by
  have K0 := Lib.hid (next_any w B g a c T k 12 hs (by decide) (by decide))
  have KN := Lib.hid (fun W (hW : Src W B g a c T (nextF T k 12).2) (m : Int) (h : 1 ≤ m) (hm : m ≤ 9007199254740992) => next_any W B g a c T _ m hW h hm)
  have KR := Lib.hid (fun W (hW : Src W B g a c T (nextF T k 12).2) (lo hi : Int) (h : lo ≤ hi) (h0 : 0 ≤ lo) (hm : hi ≤ 1125899906842624) => range_any W B g a c T _ lo hi hW h h0 hm)
  have h1 := nextF_lo T k (m := 12) (by decide)
  have h2 := nextF_hi T k (m := 12) (by decide)
  have n1 := nextF_lo T (nextF T k 12).2 (m := 80) (by decide)
  have n2 := nextF_hi T (nextF T k 12).2 (m := 80) (by decide)
  have n3 := nextF_lo T (nextF T k 12).2 (m := 4) (by decide)
  have n4 := nextF_hi T (nextF T k 12).2 (m := 4) (by decide)
  have hF := variableF.eq_1 T k
  generalize nextF T k 12 = s at *
  obtain ⟨v, k1⟩ := s
  dsimp only at *
  have HF := Lib.hid hF
  clear hs hF
  go_enter Try.func45, Try.ntmps45
  go_wp2_with fail
  refine K0.out.mono ?_
  rintro e w1 ⟨rfl, t1⟩
  have T1 := Lib.hid t1
  clear t1
  have KM := Lib.hid (KN.out w1 T1.out.src)
  have KS := Lib.hid (KR.out w1 T1.out.src)
  by_cases e0 : v = 0
  · subst e0
    have f0 : ((0 : Int) == 0) = true := rfl
    go_wp2_with fail
    refine (KS.out 0 40 (by decide) (by decide) (by decide)).mono ?_
    rintro e w2 ⟨rfl, t2⟩
    have t2 := Took.mk t2.src (grown_trans T1.out.grown t2.grown)
    generalize hq : rangeF T k1 0 40 = q at *
    obtain ⟨q, k2⟩ := q
    dsimp only at *
    have T2 := Lib.hid t2
    clear t2 hq
    go_wp2_with fail
    go_ret
    have hF := HF.out
    simp only [if_true] at hF
    rw [hF]
    exact ⟨rfl, T2.out⟩
  have f0 : (v == 0) = false := by simpa using e0
  by_cases e1 : v = 1
  · subst e1
    go_wp2_with fail
    refine (KM.out 80 (by decide) (by decide)).mono ?_
    rintro e w2 ⟨rfl, t2⟩
    have t2 := Took.mk t2.src (grown_trans T1.out.grown t2.grown)
    generalize hq : nextF T k1 80 = q at *
    obtain ⟨q, k2⟩ := q
    dsimp only at *
    have T2 := Lib.hid t2
    clear t2 hq
    go_wp2_with fail
    go_ret
    have hF := HF.out
    simp only [e0, if_true, if_false] at hF
    rw [hF]
    exact ⟨rfl, T2.out⟩
  have f1 : (v == 1) = false := by simpa using e1
  by_cases e2 : v ≤ 5
  · have f : v = 2 ∨ v = 3 ∨ v = 4 ∨ v = 5 := by omega
    have HE := Lib.hid (And.intro e0 (And.intro e1 e2))
    clear e0 e1 e2 h1 h2 f0 f1
    rcases f with rfl | rfl | rfl | rfl
    all_goals
      skip
      go_wp2_with fail
      refine (KM.out 4 (by decide) (by decide)).mono ?_
      rintro e w2 ⟨rfl, t2⟩
      have t2 := Took.mk t2.src (grown_trans T1.out.grown t2.grown)
      generalize hq : nextF T k1 4 = q at *
      obtain ⟨q, k2⟩ := q
      dsimp only at *
      have T2 := Lib.hid t2
      clear t2 hq
      go_wp2_with fail
      go_ret
      have hF := HF.out
      rw [if_neg HE.out.1, if_neg HE.out.2.1, if_pos HE.out.2.2] at hF
      rw [hF]
      exact ⟨rfl, T2.out⟩
  have f2 : (v == 2) = false := by simp; omega
  have f3 : (v == 3) = false := by simp; omega
  have f4 : (v == 4) = false := by simp; omega
  have f5 : (v == 5) = false := by simp; omega
  go_wp2_with fail
  refine (KS.out 1 5 (by decide) (by decide) (by decide)).mono ?_
  rintro e w2 ⟨rfl, t2⟩
  have t2 := Took.mk t2.src (grown_trans T1.out.grown t2.grown)
  generalize hq : rangeF T k1 1 5 = q at *
  obtain ⟨q, k2⟩ := q
  dsimp only at *
  have T2 := Lib.hid t2
  clear t2 hq
  go_wp2_with fail
  go_ret
  have hF := HF.out
  rw [if_neg e0, if_neg e1, if_neg (show ¬ v ≤ 5 by omega)] at hF
  rw [hF]
  exact ⟨rfl, T2.out⟩
end Go.Proofs.Yteiogjgmedikhaa
