/-
  cncmill.Events: a valid list of events out of any numbers. Any list of at most 2,000 numbers.
-/
import Derived.Test.YtkafmpgihhnhdaaDoorAt33
import Derived.Test.YtkafmpgihhnhdaaDoorMill
namespace Go.Proofs.YtkafmpgihhnhdaaDoor
open Go Go.RowKit
set_option linter.unusedVariables false

theorem from_any (w : World) (a : Option Addr) (n c : Nat) :
    Calls Tryd.prog 21 #[.slice a n c] w fun e w' => e = .returned (.pointer (some ⟨w.heap.size, 0, none⟩)) ∧ w' = w.alloc (.cells #[.slice a n c, .int .i64 0] 69) := by
  go_enter Tryd.func21, Tryd.ntmps21
  go_wp2
  go_ret
  exact ⟨rfl, rfl⟩
theorem left_any (w : World) (B g : Nat) (a : Option Addr) (n c k : Nat) (z : Nat → Int) (hs : Src w B g a n c z k) :
    Calls Tryd.prog 22 #[.pointer (some ⟨g, 0, none⟩)] w fun e w' => e = .returned (.bool (decide (k < n))) ∧ ∃ q, w' = w.drewN q := by
  have c0 : w.cell? ⟨g, 0, none⟩ = some (.slice a n c) := hs.blk.cell 0
  have c1 : w.cell? ⟨g, 1, none⟩ = some (.int .i64 k) := hs.blk.cell 1
  clear hs
  go_enter Tryd.func22, Tryd.ntmps22
  go_wp2_with fail
  go_quiet (fail)
  go_wp2
  go_ret
  exact ⟨by simp, _, rfl⟩
/-- A number from 0 to m - 1; the source does not go back, and goes on where it holds more. -/
def Gives (B g : Nat) (a : Option Addr) (n c : Nat) (z : Nat → Int) (k : Nat) (m : Int) (w : World) (e : Ending) (w' : World) : Prop :=
  ∃ r k', 0 ≤ r ∧ r < m ∧ k ≤ k' ∧ (k < n → k < k') ∧ e = .returned (.int .i64 r) ∧ Src w' B g a n c z k' ∧ w.grownBy w' (some g)
theorem next_k (w : World) (B g : Nat) (a : Option Addr) (n c : Nat) (z : Nat → Int) (m : Int) (k : Nat) (hs : Src w B g a n c z k) (h : 1 ≤ m) (hm : m ≤ 1099511627776) :
    Calls Tryd.prog 23 #[.pointer (some ⟨g, 0, none⟩), .int .i64 m] w (Gives B g a n c z k m w) := by
  rcases Nat.lt_or_ge k n with hk | hk
  · refine (next_more w B g a n c k z m hs hk h hm).mono ?_
    rintro e w' ⟨rfl, q, rfl⟩
    exact ⟨_, _, Int.emod_nonneg _ (by omega), Int.emod_lt_of_pos _ (by omega), Nat.le_succ k, fun _ => Nat.lt_succ_self k, rfl, (hs.drewN q).next hk, grown_setCell (grown_drewN (grown_refl _ _) q) (.inl rfl) _⟩
  · refine (next_end w B g a n c k z m hs hk).mono ?_
    rintro e w' ⟨rfl, q, rfl⟩
    exact ⟨0, k, by omega, by omega, Nat.le_refl _, fun h => absurd h (by omega), rfl, hs.drewN q, grown_drewN (grown_refl _ _) q⟩

def kinds15 : List Int := [4, 1, 2, 3, 4, 5, 6, 7, 4, 8, 9, 11, 12, 13, 10]
theorem kinds15_at (r : Int) (h0 : 0 ≤ r) (h1 : r < 15) : ∃ x, (kinds15.map (Value.int .i64)).toArray[r.toNat]? = some (.int .i64 x) ∧ (x = 1 ∨ x = 2 ∨ x = 3 ∨ x = 4 ∨ x = 5 ∨ x = 6 ∨ x = 7 ∨ x = 8 ∨ x = 9 ∨ x = 10 ∨ x = 11 ∨ x = 12 ∨ x = 13) := by
  have h : r = 0 ∨ r = 1 ∨ r = 2 ∨ r = 3 ∨ r = 4 ∨ r = 5 ∨ r = 6 ∨ r = 7 ∨ r = 8 ∨ r = 9 ∨ r = 10 ∨ r = 11 ∨ r = 12 ∨ r = 13 ∨ r = 14 := by omega
  rcases h with rfl | rfl | rfl | rfl | rfl | rfl | rfl | rfl | rfl | rfl | rfl | rfl | rfl | rfl | rfl <;> exact ⟨_, rfl, by decide⟩
/-- An event of a cycle, its kind and number in their bounds. -/
def EvGen (B g : Nat) (a : Option Addr) (n c : Nat) (z : Nat → Int) (cyc : Int) (k : Nat) (w : World) (e : Ending) (w' : World) : Prop :=
  ∃ kd nn k', e = .returned (.agg #[.int .i64 cyc, .int .i64 kd, .int .i64 nn]) ∧ (1 ≤ kd ∧ kd ≤ 13 ∧ -1073741824 ≤ nn ∧ nn ≤ 1073741824) ∧ k ≤ k' ∧ Src w' B g a n c z k' ∧ w.grownBy w' (some g)
/-- What stands while cncmill.event runs: the source, the result's block, the event's block. -/
structure EJ (w : World) (B g : Nat) (a : Option Addr) (n c : Nat) (z : Nat → Int) (k : Nat) (b : Nat) (cs : Array Value) (W : World) : Prop where
  hb : w.heap.size < b
  src : ∃ k', k ≤ k' ∧ Src W B g a n c z k'
  res : Blk W w.heap.size 28 #[.int .i64 0, .int .i64 0, .int .i64 0]
  ev : Blk W b 28 cs
  grown : w.grownBy W (some g)
theorem EJ.next {w : World} {B g : Nat} {a : Option Addr} {n c : Nat} {z : Nat → Int} {k b : Nat} {cs : Array Value} {W W' : World} (h : EJ w B g a n c z k b cs W) (hlt : g < w.heap.size) {k1 k2 : Nat} (h1 : k ≤ k1) (h2 : k1 ≤ k2) (hs : Src W' B g a n c z k2) (hg : W.grownBy W' (some g)) : EJ w B g a n c z k b cs W' :=
  ⟨h.hb, ⟨k2, by omega, hs⟩, h.res.grown hg (by simp; omega), h.ev.grown hg (by have := h.hb; simp; omega), grown_trans h.grown hg⟩
theorem EJ.set {w : World} {B g : Nat} {a : Option Addr} {n c : Nat} {z : Nat → Int} {k b : Nat} {cs : Array Value} {W : World} (h : EJ w B g a n c z k b cs W) (hlt : g < w.heap.size) (v : Value) : EJ w B g a n c z k b (cs.setIfInBounds 2 v) (W.setCell ⟨b, 2, none⟩ v) := by
  obtain ⟨k', h1, h2⟩ := h.src
  have hb := h.hb
  exact ⟨hb, ⟨k', h1, h2.setCell (by have := h2.old; show B ≤ b; omega) (by show b ≠ g; omega) _⟩, h.res.far (by show w.heap.size ≠ b; omega) _, h.ev.put 2 v, grown_setCell h.grown (.inr (by show w.heap.size ≤ b; omega)) _⟩
theorem EJ.done {w : World} {B g : Nat} {a : Option Addr} {n c : Nat} {z : Nat → Int} {k b : Nat} {cyc kd nn : Int} {W : World} (h : EJ w B g a n c z k b #[.int .i64 cyc, .int .i64 kd, .int .i64 nn] W) (hlt : g < w.heap.size) (hk : 1 ≤ kd ∧ kd ≤ 13 ∧ -1073741824 ≤ nn ∧ nn ≤ 1073741824) (cs : Array Value) : EvGen B g a n c z cyc k w (.returned (.agg #[.int .i64 cyc, .int .i64 kd, .int .i64 nn])) (W.setRow w.heap.size cs) := by
  obtain ⟨k', h1, h2⟩ := h.src
  exact ⟨kd, nn, k', rfl, hk, h1, h2.setRow (by have := h2.old; omega) (by omega) cs, grown_setRow h.grown (.inr (Nat.le_refl _)) cs⟩
set_option maxRecDepth 100000 in
set_option maxHeartbeats 2000000 in
theorem event_k (w : World) (B g : Nat) (a : Option Addr) (n c : Nat) (z : Nat → Int) (cyc : Int) (k : Nat) (hs : Src w B g a n c z k) :
    Calls Tryd.prog 24 #[.pointer (some ⟨g, 0, none⟩), .int .i64 cyc] w (EvGen B g a n c z cyc k w) := by
  have hgl := hs.lt
  have hold := hs.old
  have HS := Lib.hid hs
  clear hs
  go_enter Tryd.func24, Tryd.ntmps24
  go_wp2_with fail
  refine calls_told (fun W => W.heap.size = w.heap.size + 2 ∧ Src W B g a n c z k ∧ Blk W w.heap.size 28 #[.int .i64 0, .int .i64 0, .int .i64 0] ∧ Blk W (w.heap.size + 1) 3 (kinds15.map (Value.int .i64)).toArray ∧ w.grownBy W (some g))
    ⟨by simp, (HS.out.alloc _).alloc _, (Blk.new w _ _).alloc _, by rw [show w.heap.size + 1 = (w.alloc (.cells #[.int .i64 0, .int .i64 0, .int .i64 0] 28)).heap.size by simp]; exact Blk.new _ _ _, grown_alloc (grown_alloc (grown_refl _ _) _) _⟩ ?_
  rintro w0 ⟨z0, s0, b0, t0, g0⟩
  refine (next_k w0 B g a n c z 15 k s0 (by omega) (by omega)).mono ?_
  rintro e w1 ⟨r, k1, h0, h1, hk1, _, rfl, s1, g1⟩
  obtain ⟨x, hx, hxx⟩ := kinds15_at r h0 h1
  have c1 : w1.cell? ⟨w.heap.size + 1, r.toNat, none⟩ = some (.int .i64 x) := ((t0.grown g1 (by simp; omega)).cell _).trans hx
  have sz1 := g1.size
  have b1 := b0.grown g1 (by simp; omega)
  have G1 := grown_trans g0 g1
  have s2 := s1.alloc (.cells #[.int .i64 cyc, .int .i64 x, .int .i64 0] 28)
  have J2 := Lib.hid (⟨by omega, ⟨k1, hk1, s2⟩, b1.alloc _, Blk.new w1 _ _, grown_alloc G1 _⟩ : EJ w B g a n c z k w1.heap.size #[.int .i64 cyc, .int .i64 x, .int .i64 0] (w1.alloc (.cells #[.int .i64 cyc, .int .i64 x, .int .i64 0] 28)))
  clear s2 s1 b1 G1 b0 t0 g0 g1 s0 hx HS
  rcases hxx with rfl | rfl | rfl | rfl | rfl | rfl | rfl | rfl | rfl | rfl | rfl | rfl | rfl
  · skip
    obtain ⟨k6, hk6, hs6⟩ := J2.out.src
    have KN := Lib.hid (next_k (w1.alloc (.cells #[.int .i64 cyc, .int .i64 1, .int .i64 0] 28)) B g a n c z 220 k6 hs6 (by omega) (by omega))
    clear hs6
    go_wp2_with fail
    refine KN.out.mono ?_
    rintro e w3 ⟨r3, k3, hr0, hr1, hk3, _, rfl, hs3, hg3⟩
    have J3 := Lib.hid (J2.out.next hgl hk6 hk3 hs3 hg3)
    have f3 : w3.frozen? ⟨w1.heap.size, 2, none⟩ = false := J3.out.ev.frozen 2
    have q3 : w3.cell? ⟨w1.heap.size, 2, none⟩ = some (.int .i64 0) := J3.out.ev.cell 2
    clear hs3 hg3 KN J2
    have J9 := Lib.hid (J3.out.set hgl (.int .i64 (r3 - 5)))
    clear J3
    have q0 : (w3.setCell ⟨w1.heap.size, 2, none⟩ (.int .i64 (r3 - 5))).cell? ⟨w1.heap.size, 0, none⟩ = some (.int .i64 cyc) := J9.out.ev.cell 0
    have q1 : (w3.setCell ⟨w1.heap.size, 2, none⟩ (.int .i64 (r3 - 5))).cell? ⟨w1.heap.size, 1, none⟩ = some (.int .i64 1) := J9.out.ev.cell 1
    have q2 : (w3.setCell ⟨w1.heap.size, 2, none⟩ (.int .i64 (r3 - 5))).cell? ⟨w1.heap.size, 2, none⟩ = some (.int .i64 (r3 - 5)) := J9.out.ev.cell 2
    go_wp2_with (first
      | ((with_reducible refine go_store_row 28 (.tmp 4) (.tmp 49) w.heap.size #[.int .i64 cyc, .int .i64 1, .int .i64 (r3 - 5)] 28 #[.int .i64 0, .int .i64 0, .int .i64 0] (by with_unfolding_all rfl) (by with_unfolding_all rfl) (by with_unfolding_all exact J9.out.res) (by with_unfolding_all kernel_rfl) (by with_unfolding_all rfl) (by with_unfolding_all rfl) ?_)))
    have BB := J9.out.res.setRow #[.int .i64 cyc, .int .i64 1, .int .i64 (r3 - 5)]
    refine bodyPost_ret (results_cell_row rfl _ _ w.heap.size 28 #[.int .i64 cyc, .int .i64 1, .int .i64 (r3 - 5)] (0, 0) _ rfl (show Blk _ _ _ _ from BB) Tryd.underlying28 rfl (by kernel_rfl)) rfl ?_
    exact J9.out.done hgl (by omega) _
  · skip
    obtain ⟨k6, hk6, hs6⟩ := J2.out.src
    have KN := Lib.hid (next_k (w1.alloc (.cells #[.int .i64 cyc, .int .i64 2, .int .i64 0] 28)) B g a n c z 220 k6 hs6 (by omega) (by omega))
    clear hs6
    go_wp2_with fail
    refine KN.out.mono ?_
    rintro e w3 ⟨r3, k3, hr0, hr1, hk3, _, rfl, hs3, hg3⟩
    have J3 := Lib.hid (J2.out.next hgl hk6 hk3 hs3 hg3)
    have f3 : w3.frozen? ⟨w1.heap.size, 2, none⟩ = false := J3.out.ev.frozen 2
    have q3 : w3.cell? ⟨w1.heap.size, 2, none⟩ = some (.int .i64 0) := J3.out.ev.cell 2
    clear hs3 hg3 KN J2
    have J9 := Lib.hid (J3.out.set hgl (.int .i64 (r3 - 5)))
    clear J3
    have q0 : (w3.setCell ⟨w1.heap.size, 2, none⟩ (.int .i64 (r3 - 5))).cell? ⟨w1.heap.size, 0, none⟩ = some (.int .i64 cyc) := J9.out.ev.cell 0
    have q1 : (w3.setCell ⟨w1.heap.size, 2, none⟩ (.int .i64 (r3 - 5))).cell? ⟨w1.heap.size, 1, none⟩ = some (.int .i64 2) := J9.out.ev.cell 1
    have q2 : (w3.setCell ⟨w1.heap.size, 2, none⟩ (.int .i64 (r3 - 5))).cell? ⟨w1.heap.size, 2, none⟩ = some (.int .i64 (r3 - 5)) := J9.out.ev.cell 2
    go_wp2_with (first
      | ((with_reducible refine go_store_row 28 (.tmp 4) (.tmp 49) w.heap.size #[.int .i64 cyc, .int .i64 2, .int .i64 (r3 - 5)] 28 #[.int .i64 0, .int .i64 0, .int .i64 0] (by with_unfolding_all rfl) (by with_unfolding_all rfl) (by with_unfolding_all exact J9.out.res) (by with_unfolding_all kernel_rfl) (by with_unfolding_all rfl) (by with_unfolding_all rfl) ?_)))
    have BB := J9.out.res.setRow #[.int .i64 cyc, .int .i64 2, .int .i64 (r3 - 5)]
    refine bodyPost_ret (results_cell_row rfl _ _ w.heap.size 28 #[.int .i64 cyc, .int .i64 2, .int .i64 (r3 - 5)] (0, 0) _ rfl (show Blk _ _ _ _ from BB) Tryd.underlying28 rfl (by kernel_rfl)) rfl ?_
    exact J9.out.done hgl (by omega) _
  · have J9 := J2
    clear J2
    have q0 : (w1.alloc (.cells #[.int .i64 cyc, .int .i64 3, .int .i64 0] 28)).cell? ⟨w1.heap.size, 0, none⟩ = some (.int .i64 cyc) := J9.out.ev.cell 0
    have q1 : (w1.alloc (.cells #[.int .i64 cyc, .int .i64 3, .int .i64 0] 28)).cell? ⟨w1.heap.size, 1, none⟩ = some (.int .i64 3) := J9.out.ev.cell 1
    have q2 : (w1.alloc (.cells #[.int .i64 cyc, .int .i64 3, .int .i64 0] 28)).cell? ⟨w1.heap.size, 2, none⟩ = some (.int .i64 0) := J9.out.ev.cell 2
    go_wp2_with (first
      | ((with_reducible refine go_store_row 28 (.tmp 4) (.tmp 49) w.heap.size #[.int .i64 cyc, .int .i64 3, .int .i64 0] 28 #[.int .i64 0, .int .i64 0, .int .i64 0] (by with_unfolding_all rfl) (by with_unfolding_all rfl) (by with_unfolding_all exact J9.out.res) (by with_unfolding_all kernel_rfl) (by with_unfolding_all rfl) (by with_unfolding_all rfl) ?_)))
    have BB := J9.out.res.setRow #[.int .i64 cyc, .int .i64 3, .int .i64 0]
    refine bodyPost_ret (results_cell_row rfl _ _ w.heap.size 28 #[.int .i64 cyc, .int .i64 3, .int .i64 0] (0, 0) _ rfl (show Blk _ _ _ _ from BB) Tryd.underlying28 rfl (by kernel_rfl)) rfl ?_
    exact J9.out.done hgl (by omega) _
  · have J9 := J2
    clear J2
    have q0 : (w1.alloc (.cells #[.int .i64 cyc, .int .i64 4, .int .i64 0] 28)).cell? ⟨w1.heap.size, 0, none⟩ = some (.int .i64 cyc) := J9.out.ev.cell 0
    have q1 : (w1.alloc (.cells #[.int .i64 cyc, .int .i64 4, .int .i64 0] 28)).cell? ⟨w1.heap.size, 1, none⟩ = some (.int .i64 4) := J9.out.ev.cell 1
    have q2 : (w1.alloc (.cells #[.int .i64 cyc, .int .i64 4, .int .i64 0] 28)).cell? ⟨w1.heap.size, 2, none⟩ = some (.int .i64 0) := J9.out.ev.cell 2
    go_wp2_with (first
      | ((with_reducible refine go_store_row 28 (.tmp 4) (.tmp 49) w.heap.size #[.int .i64 cyc, .int .i64 4, .int .i64 0] 28 #[.int .i64 0, .int .i64 0, .int .i64 0] (by with_unfolding_all rfl) (by with_unfolding_all rfl) (by with_unfolding_all exact J9.out.res) (by with_unfolding_all kernel_rfl) (by with_unfolding_all rfl) (by with_unfolding_all rfl) ?_)))
    have BB := J9.out.res.setRow #[.int .i64 cyc, .int .i64 4, .int .i64 0]
    refine bodyPost_ret (results_cell_row rfl _ _ w.heap.size 28 #[.int .i64 cyc, .int .i64 4, .int .i64 0] (0, 0) _ rfl (show Blk _ _ _ _ from BB) Tryd.underlying28 rfl (by kernel_rfl)) rfl ?_
    exact J9.out.done hgl (by omega) _
  · skip
    obtain ⟨k6, hk6, hs6⟩ := J2.out.src
    have KN := Lib.hid (next_k (w1.alloc (.cells #[.int .i64 cyc, .int .i64 5, .int .i64 0] 28)) B g a n c z 3 k6 hs6 (by omega) (by omega))
    clear hs6
    go_wp2_with fail
    refine KN.out.mono ?_
    rintro e w3 ⟨r3, k3, hr0, hr1, hk3, _, rfl, hs3, hg3⟩
    have J3 := Lib.hid (J2.out.next hgl hk6 hk3 hs3 hg3)
    have f3 : w3.frozen? ⟨w1.heap.size, 2, none⟩ = false := J3.out.ev.frozen 2
    have q3 : w3.cell? ⟨w1.heap.size, 2, none⟩ = some (.int .i64 0) := J3.out.ev.cell 2
    clear hs3 hg3 KN J2
    have J9 := Lib.hid (J3.out.set hgl (.int .i64 (r3)))
    clear J3
    have q0 : (w3.setCell ⟨w1.heap.size, 2, none⟩ (.int .i64 (r3))).cell? ⟨w1.heap.size, 0, none⟩ = some (.int .i64 cyc) := J9.out.ev.cell 0
    have q1 : (w3.setCell ⟨w1.heap.size, 2, none⟩ (.int .i64 (r3))).cell? ⟨w1.heap.size, 1, none⟩ = some (.int .i64 5) := J9.out.ev.cell 1
    have q2 : (w3.setCell ⟨w1.heap.size, 2, none⟩ (.int .i64 (r3))).cell? ⟨w1.heap.size, 2, none⟩ = some (.int .i64 (r3)) := J9.out.ev.cell 2
    go_wp2_with (first
      | ((with_reducible refine go_store_row 28 (.tmp 4) (.tmp 49) w.heap.size #[.int .i64 cyc, .int .i64 5, .int .i64 (r3)] 28 #[.int .i64 0, .int .i64 0, .int .i64 0] (by with_unfolding_all rfl) (by with_unfolding_all rfl) (by with_unfolding_all exact J9.out.res) (by with_unfolding_all kernel_rfl) (by with_unfolding_all rfl) (by with_unfolding_all rfl) ?_)))
    have BB := J9.out.res.setRow #[.int .i64 cyc, .int .i64 5, .int .i64 (r3)]
    refine bodyPost_ret (results_cell_row rfl _ _ w.heap.size 28 #[.int .i64 cyc, .int .i64 5, .int .i64 (r3)] (0, 0) _ rfl (show Blk _ _ _ _ from BB) Tryd.underlying28 rfl (by kernel_rfl)) rfl ?_
    exact J9.out.done hgl (by omega) _
  · skip
    obtain ⟨k6, hk6, hs6⟩ := J2.out.src
    have KN := Lib.hid (next_k (w1.alloc (.cells #[.int .i64 cyc, .int .i64 6, .int .i64 0] 28)) B g a n c z 3 k6 hs6 (by omega) (by omega))
    clear hs6
    go_wp2_with fail
    refine KN.out.mono ?_
    rintro e w3 ⟨r3, k3, hr0, hr1, hk3, _, rfl, hs3, hg3⟩
    have J3 := Lib.hid (J2.out.next hgl hk6 hk3 hs3 hg3)
    have f3 : w3.frozen? ⟨w1.heap.size, 2, none⟩ = false := J3.out.ev.frozen 2
    have q3 : w3.cell? ⟨w1.heap.size, 2, none⟩ = some (.int .i64 0) := J3.out.ev.cell 2
    clear hs3 hg3 KN J2
    have J9 := Lib.hid (J3.out.set hgl (.int .i64 (r3)))
    clear J3
    have q0 : (w3.setCell ⟨w1.heap.size, 2, none⟩ (.int .i64 (r3))).cell? ⟨w1.heap.size, 0, none⟩ = some (.int .i64 cyc) := J9.out.ev.cell 0
    have q1 : (w3.setCell ⟨w1.heap.size, 2, none⟩ (.int .i64 (r3))).cell? ⟨w1.heap.size, 1, none⟩ = some (.int .i64 6) := J9.out.ev.cell 1
    have q2 : (w3.setCell ⟨w1.heap.size, 2, none⟩ (.int .i64 (r3))).cell? ⟨w1.heap.size, 2, none⟩ = some (.int .i64 (r3)) := J9.out.ev.cell 2
    go_wp2_with (first
      | ((with_reducible refine go_store_row 28 (.tmp 4) (.tmp 49) w.heap.size #[.int .i64 cyc, .int .i64 6, .int .i64 (r3)] 28 #[.int .i64 0, .int .i64 0, .int .i64 0] (by with_unfolding_all rfl) (by with_unfolding_all rfl) (by with_unfolding_all exact J9.out.res) (by with_unfolding_all kernel_rfl) (by with_unfolding_all rfl) (by with_unfolding_all rfl) ?_)))
    have BB := J9.out.res.setRow #[.int .i64 cyc, .int .i64 6, .int .i64 (r3)]
    refine bodyPost_ret (results_cell_row rfl _ _ w.heap.size 28 #[.int .i64 cyc, .int .i64 6, .int .i64 (r3)] (0, 0) _ rfl (show Blk _ _ _ _ from BB) Tryd.underlying28 rfl (by kernel_rfl)) rfl ?_
    exact J9.out.done hgl (by omega) _
  · skip
    obtain ⟨k6, hk6, hs6⟩ := J2.out.src
    have KN := Lib.hid (next_k (w1.alloc (.cells #[.int .i64 cyc, .int .i64 7, .int .i64 0] 28)) B g a n c z 300 k6 hs6 (by omega) (by omega))
    clear hs6
    go_wp2_with fail
    refine KN.out.mono ?_
    rintro e w3 ⟨r3, k3, hr0, hr1, hk3, _, rfl, hs3, hg3⟩
    have J3 := Lib.hid (J2.out.next hgl hk6 hk3 hs3 hg3)
    have f3 : w3.frozen? ⟨w1.heap.size, 2, none⟩ = false := J3.out.ev.frozen 2
    have q3 : w3.cell? ⟨w1.heap.size, 2, none⟩ = some (.int .i64 0) := J3.out.ev.cell 2
    clear hs3 hg3 KN J2
    have J9 := Lib.hid (J3.out.set hgl (.int .i64 (r3 - 5)))
    clear J3
    have q0 : (w3.setCell ⟨w1.heap.size, 2, none⟩ (.int .i64 (r3 - 5))).cell? ⟨w1.heap.size, 0, none⟩ = some (.int .i64 cyc) := J9.out.ev.cell 0
    have q1 : (w3.setCell ⟨w1.heap.size, 2, none⟩ (.int .i64 (r3 - 5))).cell? ⟨w1.heap.size, 1, none⟩ = some (.int .i64 7) := J9.out.ev.cell 1
    have q2 : (w3.setCell ⟨w1.heap.size, 2, none⟩ (.int .i64 (r3 - 5))).cell? ⟨w1.heap.size, 2, none⟩ = some (.int .i64 (r3 - 5)) := J9.out.ev.cell 2
    go_wp2_with (first
      | ((with_reducible refine go_store_row 28 (.tmp 4) (.tmp 49) w.heap.size #[.int .i64 cyc, .int .i64 7, .int .i64 (r3 - 5)] 28 #[.int .i64 0, .int .i64 0, .int .i64 0] (by with_unfolding_all rfl) (by with_unfolding_all rfl) (by with_unfolding_all exact J9.out.res) (by with_unfolding_all kernel_rfl) (by with_unfolding_all rfl) (by with_unfolding_all rfl) ?_)))
    have BB := J9.out.res.setRow #[.int .i64 cyc, .int .i64 7, .int .i64 (r3 - 5)]
    refine bodyPost_ret (results_cell_row rfl _ _ w.heap.size 28 #[.int .i64 cyc, .int .i64 7, .int .i64 (r3 - 5)] (0, 0) _ rfl (show Blk _ _ _ _ from BB) Tryd.underlying28 rfl (by kernel_rfl)) rfl ?_
    exact J9.out.done hgl (by omega) _
  · skip
    obtain ⟨k6, hk6, hs6⟩ := J2.out.src
    have KN := Lib.hid (next_k (w1.alloc (.cells #[.int .i64 cyc, .int .i64 8, .int .i64 0] 28)) B g a n c z 5 k6 hs6 (by omega) (by omega))
    clear hs6
    go_wp2_with fail
    refine KN.out.mono ?_
    rintro e w3 ⟨r3, k3, hr0, hr1, hk3, _, rfl, hs3, hg3⟩
    have J3 := Lib.hid (J2.out.next hgl hk6 hk3 hs3 hg3)
    have f3 : w3.frozen? ⟨w1.heap.size, 2, none⟩ = false := J3.out.ev.frozen 2
    have q3 : w3.cell? ⟨w1.heap.size, 2, none⟩ = some (.int .i64 0) := J3.out.ev.cell 2
    clear hs3 hg3 KN J2
    have J9 := Lib.hid (J3.out.set hgl (.int .i64 (r3 - 1)))
    clear J3
    have q0 : (w3.setCell ⟨w1.heap.size, 2, none⟩ (.int .i64 (r3 - 1))).cell? ⟨w1.heap.size, 0, none⟩ = some (.int .i64 cyc) := J9.out.ev.cell 0
    have q1 : (w3.setCell ⟨w1.heap.size, 2, none⟩ (.int .i64 (r3 - 1))).cell? ⟨w1.heap.size, 1, none⟩ = some (.int .i64 8) := J9.out.ev.cell 1
    have q2 : (w3.setCell ⟨w1.heap.size, 2, none⟩ (.int .i64 (r3 - 1))).cell? ⟨w1.heap.size, 2, none⟩ = some (.int .i64 (r3 - 1)) := J9.out.ev.cell 2
    go_wp2_with (first
      | ((with_reducible refine go_store_row 28 (.tmp 4) (.tmp 49) w.heap.size #[.int .i64 cyc, .int .i64 8, .int .i64 (r3 - 1)] 28 #[.int .i64 0, .int .i64 0, .int .i64 0] (by with_unfolding_all rfl) (by with_unfolding_all rfl) (by with_unfolding_all exact J9.out.res) (by with_unfolding_all kernel_rfl) (by with_unfolding_all rfl) (by with_unfolding_all rfl) ?_)))
    have BB := J9.out.res.setRow #[.int .i64 cyc, .int .i64 8, .int .i64 (r3 - 1)]
    refine bodyPost_ret (results_cell_row rfl _ _ w.heap.size 28 #[.int .i64 cyc, .int .i64 8, .int .i64 (r3 - 1)] (0, 0) _ rfl (show Blk _ _ _ _ from BB) Tryd.underlying28 rfl (by kernel_rfl)) rfl ?_
    exact J9.out.done hgl (by omega) _
  · have J9 := J2
    clear J2
    have q0 : (w1.alloc (.cells #[.int .i64 cyc, .int .i64 9, .int .i64 0] 28)).cell? ⟨w1.heap.size, 0, none⟩ = some (.int .i64 cyc) := J9.out.ev.cell 0
    have q1 : (w1.alloc (.cells #[.int .i64 cyc, .int .i64 9, .int .i64 0] 28)).cell? ⟨w1.heap.size, 1, none⟩ = some (.int .i64 9) := J9.out.ev.cell 1
    have q2 : (w1.alloc (.cells #[.int .i64 cyc, .int .i64 9, .int .i64 0] 28)).cell? ⟨w1.heap.size, 2, none⟩ = some (.int .i64 0) := J9.out.ev.cell 2
    go_wp2_with (first
      | ((with_reducible refine go_store_row 28 (.tmp 4) (.tmp 49) w.heap.size #[.int .i64 cyc, .int .i64 9, .int .i64 0] 28 #[.int .i64 0, .int .i64 0, .int .i64 0] (by with_unfolding_all rfl) (by with_unfolding_all rfl) (by with_unfolding_all exact J9.out.res) (by with_unfolding_all kernel_rfl) (by with_unfolding_all rfl) (by with_unfolding_all rfl) ?_)))
    have BB := J9.out.res.setRow #[.int .i64 cyc, .int .i64 9, .int .i64 0]
    refine bodyPost_ret (results_cell_row rfl _ _ w.heap.size 28 #[.int .i64 cyc, .int .i64 9, .int .i64 0] (0, 0) _ rfl (show Blk _ _ _ _ from BB) Tryd.underlying28 rfl (by kernel_rfl)) rfl ?_
    exact J9.out.done hgl (by omega) _
  · have J9 := J2
    clear J2
    have q0 : (w1.alloc (.cells #[.int .i64 cyc, .int .i64 10, .int .i64 0] 28)).cell? ⟨w1.heap.size, 0, none⟩ = some (.int .i64 cyc) := J9.out.ev.cell 0
    have q1 : (w1.alloc (.cells #[.int .i64 cyc, .int .i64 10, .int .i64 0] 28)).cell? ⟨w1.heap.size, 1, none⟩ = some (.int .i64 10) := J9.out.ev.cell 1
    have q2 : (w1.alloc (.cells #[.int .i64 cyc, .int .i64 10, .int .i64 0] 28)).cell? ⟨w1.heap.size, 2, none⟩ = some (.int .i64 0) := J9.out.ev.cell 2
    go_wp2_with (first
      | ((with_reducible refine go_store_row 28 (.tmp 4) (.tmp 49) w.heap.size #[.int .i64 cyc, .int .i64 10, .int .i64 0] 28 #[.int .i64 0, .int .i64 0, .int .i64 0] (by with_unfolding_all rfl) (by with_unfolding_all rfl) (by with_unfolding_all exact J9.out.res) (by with_unfolding_all kernel_rfl) (by with_unfolding_all rfl) (by with_unfolding_all rfl) ?_)))
    have BB := J9.out.res.setRow #[.int .i64 cyc, .int .i64 10, .int .i64 0]
    refine bodyPost_ret (results_cell_row rfl _ _ w.heap.size 28 #[.int .i64 cyc, .int .i64 10, .int .i64 0] (0, 0) _ rfl (show Blk _ _ _ _ from BB) Tryd.underlying28 rfl (by kernel_rfl)) rfl ?_
    exact J9.out.done hgl (by omega) _
  · have J9 := J2
    clear J2
    have q0 : (w1.alloc (.cells #[.int .i64 cyc, .int .i64 11, .int .i64 0] 28)).cell? ⟨w1.heap.size, 0, none⟩ = some (.int .i64 cyc) := J9.out.ev.cell 0
    have q1 : (w1.alloc (.cells #[.int .i64 cyc, .int .i64 11, .int .i64 0] 28)).cell? ⟨w1.heap.size, 1, none⟩ = some (.int .i64 11) := J9.out.ev.cell 1
    have q2 : (w1.alloc (.cells #[.int .i64 cyc, .int .i64 11, .int .i64 0] 28)).cell? ⟨w1.heap.size, 2, none⟩ = some (.int .i64 0) := J9.out.ev.cell 2
    go_wp2_with (first
      | ((with_reducible refine go_store_row 28 (.tmp 4) (.tmp 49) w.heap.size #[.int .i64 cyc, .int .i64 11, .int .i64 0] 28 #[.int .i64 0, .int .i64 0, .int .i64 0] (by with_unfolding_all rfl) (by with_unfolding_all rfl) (by with_unfolding_all exact J9.out.res) (by with_unfolding_all kernel_rfl) (by with_unfolding_all rfl) (by with_unfolding_all rfl) ?_)))
    have BB := J9.out.res.setRow #[.int .i64 cyc, .int .i64 11, .int .i64 0]
    refine bodyPost_ret (results_cell_row rfl _ _ w.heap.size 28 #[.int .i64 cyc, .int .i64 11, .int .i64 0] (0, 0) _ rfl (show Blk _ _ _ _ from BB) Tryd.underlying28 rfl (by kernel_rfl)) rfl ?_
    exact J9.out.done hgl (by omega) _
  · have J9 := J2
    clear J2
    have q0 : (w1.alloc (.cells #[.int .i64 cyc, .int .i64 12, .int .i64 0] 28)).cell? ⟨w1.heap.size, 0, none⟩ = some (.int .i64 cyc) := J9.out.ev.cell 0
    have q1 : (w1.alloc (.cells #[.int .i64 cyc, .int .i64 12, .int .i64 0] 28)).cell? ⟨w1.heap.size, 1, none⟩ = some (.int .i64 12) := J9.out.ev.cell 1
    have q2 : (w1.alloc (.cells #[.int .i64 cyc, .int .i64 12, .int .i64 0] 28)).cell? ⟨w1.heap.size, 2, none⟩ = some (.int .i64 0) := J9.out.ev.cell 2
    go_wp2_with (first
      | ((with_reducible refine go_store_row 28 (.tmp 4) (.tmp 49) w.heap.size #[.int .i64 cyc, .int .i64 12, .int .i64 0] 28 #[.int .i64 0, .int .i64 0, .int .i64 0] (by with_unfolding_all rfl) (by with_unfolding_all rfl) (by with_unfolding_all exact J9.out.res) (by with_unfolding_all kernel_rfl) (by with_unfolding_all rfl) (by with_unfolding_all rfl) ?_)))
    have BB := J9.out.res.setRow #[.int .i64 cyc, .int .i64 12, .int .i64 0]
    refine bodyPost_ret (results_cell_row rfl _ _ w.heap.size 28 #[.int .i64 cyc, .int .i64 12, .int .i64 0] (0, 0) _ rfl (show Blk _ _ _ _ from BB) Tryd.underlying28 rfl (by kernel_rfl)) rfl ?_
    exact J9.out.done hgl (by omega) _
  · obtain ⟨k6, hk6, hs6⟩ := J2.out.src
    have KN := Lib.hid (next_k (w1.alloc (.cells #[.int .i64 cyc, .int .i64 13, .int .i64 0] 28)) B g a n c z 4 k6 hs6 (by omega) (by omega))
    clear hs6
    go_wp2_with fail
    refine KN.out.mono ?_
    rintro e w3 ⟨r3, k3, hr0, hr1, hk3, _, rfl, hs3, hg3⟩
    have J3 := Lib.hid (J2.out.next hgl hk6 hk3 hs3 hg3)
    have KN2 := Lib.hid (next_k w3 B g a n c z 60 k3 hs3 (by omega) (by omega))
    clear hs3 hg3 KN J2
    go_wp2_with fail
    refine KN2.out.mono ?_
    rintro e w4 ⟨r4, k4, hr2, hr3, hk4, _, rfl, hs4, hg4⟩
    have J4 := Lib.hid (J3.out.next hgl (Nat.le_trans hk6 hk3) hk4 hs4 hg4)
    have f3 : w4.frozen? ⟨w1.heap.size, 2, none⟩ = false := J4.out.ev.frozen 2
    have q3 : w4.cell? ⟨w1.heap.size, 2, none⟩ = some (.int .i64 0) := J4.out.ev.cell 2
    clear hs4 hg4 KN2 J3
    have J9 := Lib.hid (J4.out.set hgl (.int .i64 (r3 * 1048576 + r4)))
    clear J4
    have q0 : (w4.setCell ⟨w1.heap.size, 2, none⟩ (.int .i64 (r3 * 1048576 + r4))).cell? ⟨w1.heap.size, 0, none⟩ = some (.int .i64 cyc) := J9.out.ev.cell 0
    have q1 : (w4.setCell ⟨w1.heap.size, 2, none⟩ (.int .i64 (r3 * 1048576 + r4))).cell? ⟨w1.heap.size, 1, none⟩ = some (.int .i64 13) := J9.out.ev.cell 1
    have q2 : (w4.setCell ⟨w1.heap.size, 2, none⟩ (.int .i64 (r3 * 1048576 + r4))).cell? ⟨w1.heap.size, 2, none⟩ = some (.int .i64 (r3 * 1048576 + r4)) := J9.out.ev.cell 2
    go_wp2_with (first
      | ((with_reducible refine go_store_row 28 (.tmp 4) (.tmp 49) w.heap.size #[.int .i64 cyc, .int .i64 13, .int .i64 (r3 * 1048576 + r4)] 28 #[.int .i64 0, .int .i64 0, .int .i64 0] (by with_unfolding_all rfl) (by with_unfolding_all rfl) (by with_unfolding_all exact J9.out.res) (by with_unfolding_all kernel_rfl) (by with_unfolding_all rfl) (by with_unfolding_all rfl) ?_)))
    have BB := J9.out.res.setRow #[.int .i64 cyc, .int .i64 13, .int .i64 (r3 * 1048576 + r4)]
    refine bodyPost_ret (results_cell_row rfl _ _ w.heap.size 28 #[.int .i64 cyc, .int .i64 13, .int .i64 (r3 * 1048576 + r4)] (0, 0) _ rfl (show Blk _ _ _ _ from BB) Tryd.underlying28 rfl (by kernel_rfl)) rfl ?_
    exact J9.out.done hgl (by omega) _
def usedOf (W : World) (g : Nat) : Nat := match W.cell? ⟨g, 1, none⟩ with | some (.int _ v) => v.toNat | _ => 0
theorem Src.usedOf {W : World} {B g n c k : Nat} {a : Option Addr} {z : Nat → Int} (h : Src W B g a n c z k) : Go.Proofs.YtkafmpgihhnhdaaDoor.usedOf W g = k := by
  have c1 : W.cell? ⟨g, 1, none⟩ = some (.int .i64 k) := h.blk.cell 1
  unfold Go.Proofs.YtkafmpgihhnhdaaDoor.usedOf
  rw [c1]
  simp
theorem good_snoc {E : List Ev} {cyc d kd nn : Int} (hv : validG E 0 = true) (hc : (E.getLast?.map Ev.cy).getD 0 = cyc) (h0 : 0 ≤ d) (h1 : cyc + d ≤ 1073741824) (hk : 1 ≤ kd ∧ kd ≤ 13 ∧ -1073741824 ≤ nn ∧ nn ≤ 1073741824) : validG (E ++ [⟨cyc + d, kd, nn⟩]) 0 = true := by
  refine validG_snoc hv ?_
  rw [hc]
  unfold evGood
  exact decide_eq_true (by simp only; omega)
theorem last_snoc (E : List Ev) (e : Ev) : ((E ++ [e]).getLast?.map Ev.cy).getD 0 = e.cy := by simp
theorem own_keepg {W W' : World} {base g : Nat} {v : Value} {l : List Ev} (h : W.ownsRow base 28 3 v l.length (evsC l)) (hb : g < base) (hg : W.grownBy W' (some g)) : W'.ownsRow base 28 3 v l.length (evsC l) := own_grown h hg (by intro k hk; injection hk; omega)
/-- A valid list of events in new memory. -/
def EvsPost (n : Nat) (w : World) (e : Ending) (w' : World) : Prop :=
  ∃ v E, e = .returned v ∧ validE E = true ∧ E.length ≤ n ∧ w'.ownsRow w.heap.size 28 3 v E.length (evsC E) ∧ Below w.heap.size w w'
set_option maxRecDepth 100000 in
set_option maxHeartbeats 2000000 in
theorem events_any (w : World) (a : Option Addr) (n c : Nat) (zs : List Int) (hr : IsRow .i64 w a n c zs) (hn : n ≤ 2000) :
    Calls Tryd.prog 10 #[.slice a n c] w (EvsPost n w) := by
  have hs0 : Src (w.alloc (.cells #[.slice a n c, .int .i64 0] 69)) w.heap.size w.heap.size a n c (fun i => zs.getD i 0) 0 := by
    refine ⟨Blk.new w _ _, Nat.le_refl _, by omega, by omega, fun i hi => ?_⟩
    obtain ⟨b, off, e, hb, hc⟩ := hr.num i hi
    exact ⟨b, off, e, hb, by rw [World.cell?_alloc_lt _ _ _ hb]; exact hc⟩
  obtain ⟨z, hz⟩ : ∃ z, (fun i => zs.getD i 0) = z := ⟨_, rfl⟩
  rw [hz] at hs0
  have HS := Lib.hid hs0
  clear hs0 hz hr
  go_enter Tryd.func10, Tryd.ntmps10
  go_wp2_with (go_at_call 21; refine (from_any _ _ _ _).mono ?_; rintro e w' ⟨rfl, rfl⟩)
  go_loopw [4, 5] (fun s4 s5 wr => ∃ (k : Nat) (E : List Ev) (cyc : Int), s5 = .int .i64 cyc ∧ 0 ≤ cyc ∧ cyc ≤ 40 * k ∧ (E.getLast?.map Ev.cy).getD 0 = cyc ∧ validG E 0 = true ∧ E.length ≤ k ∧ k ≤ n ∧ Src wr w.heap.size w.heap.size a n c z k ∧ wr.ownsRow (w.heap.size + 1) 28 3 s4 E.length (evsC E) ∧ Below w.heap.size w wr)
    (fun _ _ wr => n - usedOf wr w.heap.size)
  case atStart => exact ⟨0, [], 0, rfl, by omega, by omega, rfl, rfl, by simp, by omega, HS.out, World.ownsRow_nil _ _ _ _, (Below.refl _ _).alloc (Nat.le_refl _) _⟩
  case round =>
    obtain ⟨k, E, cyc, rfl, hc0, hc1, hlast, hval, hlen, hkn, hsrc, hown, bel⟩ := hrel
    have hused := hsrc.usedOf
    have hlt := hsrc.lt
    have KL := Lib.hid (left_any wr w.heap.size w.heap.size a n c k z hsrc)
    have HSRC := Lib.hid hsrc
    have HOWN := Lib.hid hown
    have BEL := Lib.hid bel
    have HVAL := Lib.hid hval
    have HLAST := Lib.hid hlast
    have HUSED := Lib.hid hused
    clear hsrc hown bel hval hlast hused HS
    go_wp2_with fail
    refine KL.out.mono ?_
    rintro e w1 ⟨rfl, q, rfl⟩
    by_cases hk : k < n
    · rw [decide_eq_true hk]
      have sN := HSRC.out.drewN q
      have gN := grown_drewN (grown_refl wr (some w.heap.size)) q
      obtain ⟨W, hW⟩ : ∃ W, wr.drewN q = W := ⟨_, rfl⟩
      rw [hW] at sN gN ⊢
      have KN := Lib.hid (next_k W w.heap.size w.heap.size a n c z 40 k sN (by omega) (by omega))
      clear sN KL
      go_wp2_with fail
      refine KN.out.mono ?_
      rintro e w2 ⟨r, k2, hr0, hr1, hk2, hk3, rfl, hs2, hg2⟩
      have hk3 := hk3 hk
      have hk2n := hs2.used
      have KE := Lib.hid (event_k w2 w.heap.size w.heap.size a n c z (cyc + r) k2 hs2)
      have G2 := Lib.hid (grown_trans gN hg2)
      clear hs2 hg2 KN gN
      go_wp2_with fail
      refine KE.out.mono ?_
      rintro e w3 ⟨kd, nn, k4, rfl, hkd, hk4, hs4, hg4⟩
      have G4 := grown_trans G2.out hg4
      have HOWN4 := Lib.hid (own_keepg HOWN.out (Nat.lt_succ_self _) G4)
      have BEL4 := Lib.hid (BEL.out.trans (below_of_grown G4 (by omega) (by intro k hk; injection hk; omega)))
      have hk4n := hs4.used
      have HS4 := Lib.hid hs4
      have hV := good_snoc HVAL.out HLAST.out hr0 (by omega) hkd
      have HV4 := Lib.hid hV
      have sz4 := G4.size
      have hl4 := hs4.lt
      clear hs4 hg4 KE G4 G2 hV HOWN BEL HVAL
      go_wp2_with (first
        | ((with_reducible refine go_ev1 (.tmp 17) (cyc + r) kd nn (by with_unfolding_all rfl) ?_))
        | ((with_reducible refine go_evapp (.tmp 14) (.tmp 18) E ⟨cyc + r, kd, nn⟩ _ (by with_unfolding_all rfl) (HOWN4.out.alloc _) (by with_unfolding_all rfl) (by with_unfolding_all exact Blk.new w3 _ _) (by omega) (by simp; omega) ?_); intro v' w5 hown5 hgrow; have bel5 : Below w.heap.size w w5 := (BEL4.out.alloc (by omega) _).trans (below_of_grown hgrow (by simp; omega) (fun k e => by have := (HOWN4.out.lt k e).1; omega)); have s5 := (HS4.out.alloc (.cells #[.int .i64 (cyc + r), .int .i64 kd, .int .i64 nn] 28)).keep (hgrow.block w.heap.size (by simp; omega) (fun e => by have := (HOWN4.out.lt _ e.symm).1; omega)) (fun p hp => World.cell?_of_block (hgrow.block p.block (by simp; omega) (fun e => by have := (HOWN4.out.lt _ e.symm).1; omega))); have FF := Lib.hid (And.intro hown5 (And.intro bel5 s5)); clear hown5 bel5 hgrow s5))
      go_roundw
      case rel => exact ⟨k4, E ++ [⟨cyc + r, kd, nn⟩], cyc + r, rfl, by omega, by omega, last_snoc _ _, HV4.out, by rw [List.length_append]; simp; omega, hk4n, FF.out.2.2, FF.out.1, FF.out.2.1⟩
      case measure => rw [HUSED.out, FF.out.2.2.usedOf]; omega
    · rw [decide_eq_false hk]
      have gN := grown_drewN (grown_refl wr (some w.heap.size)) q
      have oN := own_keepg HOWN.out (Nat.lt_succ_self _) gN
      have bN := BEL.out.trans (below_of_grown gN (by omega) (by intro k hk; injection hk; omega))
      obtain ⟨W, hW⟩ : ∃ W, wr.drewN q = W := ⟨_, rfl⟩
      rw [hW] at oN bN ⊢
      have HO := Lib.hid (own_base oN (Nat.le_succ _))
      have HB := Lib.hid bN
      obtain ⟨a5, c5, rfl, _, _⟩ := evs_own oN
      have HE : validE E = true := by unfold validE; rw [HVAL.out, decide_eq_true (by omega)]; rfl
      have HE := Lib.hid HE
      clear gN oN bN KL
      go_wp2_with fail
      go_ret
      exact ⟨_, E, rfl, HE.out, by omega, HO.out, HB.out⟩
end Go.Proofs.YtkafmpgihhnhdaaDoor
