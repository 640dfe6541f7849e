/-
  What the functions of the package cncmill leave: remainders, sources of numbers, axes. No condition beyond the types.
-/
import Derived.Test.YtkafmpgihhnhdaaDoorRows
import Derived.Test.YtkafmpgihhnhdaaDoorBase
namespace Go.Proofs.YtkafmpgihhnhdaaDoor
open Go Go.RowKit

theorem tmod_bd (v n : Int) (h : 1 ≤ n) : -n < v.tmod n ∧ v.tmod n < n := by
  have h0 := Int.emod_nonneg v (show n ≠ 0 by omega)
  have h1 := Int.emod_lt_of_pos v (show 0 < n by omega)
  rw [Int.tmod_eq_emod]
  split <;> omega
theorem tmod_add_mod (v n : Int) (h : 1 ≤ n) : (v.tmod n + n) % n = v % n := by
  rw [Int.add_emod_right, Int.tmod_eq_emod]
  split
  · simp
  · have : (n.natAbs : Int) = n := by omega
    rw [this, Int.sub_emod]; simp

theorem mod_any (v n : Int) (w : World) (h : 1 ≤ n) (hn : n ≤ 1099511627776) :
    Calls Tryd.prog 11 #[.int .i64 v, .int .i64 n] w fun e w' => e = .returned (.int .i64 (v % n)) ∧ w = w' := by
  obtain ⟨h1, h2⟩ := tmod_bd v n h
  have h3 := tmod_add_mod v n h
  have H3 := Lib.hid h3
  clear h3
  go_enter Tryd.func11, Tryd.ntmps11
  go_wp2
  go_ret
  exact ⟨by rw [← H3.out]; rfl, rfl⟩

/-- The source in block g: a slice, and how many numbers are used up; the numbers lie below block B. -/
structure Src (w : World) (B g : Nat) (a : Option Addr) (n c : Nat) (z : Nat → Int) (k : Nat) : Prop where
  blk : Blk w g 69 #[.slice a n c, .int .i64 k]
  old : B ≤ g
  used : k ≤ n
  most : n ≤ 9223372036854775807
  num : ∀ i, i < n → ∃ b o, a = some ⟨b, o, none⟩ ∧ b < B ∧ w.cell? ⟨b, o + i, none⟩ = some (.int .i64 (z i))
section
variable {w w' : World} {B g n c k : Nat} {a : Option Addr} {z : Nat → Int}
theorem Src.lt (h : Src w B g a n c z k) : g < w.heap.size := h.blk.lt
theorem Src.keep (h : Src w B g a n c z k) (hb : w'.heap[g]? = w.heap[g]?) (hc : ∀ p : Addr, p.block < B → w'.cell? p = w.cell? p) : Src w' B g a n c z k :=
  ⟨hb.trans h.blk, h.old, h.used, h.most, fun i hi => by
    obtain ⟨b, o, e, hlt, hcell⟩ := h.num i hi
    exact ⟨b, o, e, hlt, (hc _ hlt).trans hcell⟩⟩
theorem Src.drewN (h : Src w B g a n c z k) (q : Nat) : Src (w.drewN q) B g a n c z k := h.keep rfl fun _ _ => rfl
theorem Src.drew (h : Src w B g a n c z k) : Src w.drew B g a n c z k := h.keep rfl fun _ _ => rfl
theorem Src.alloc (h : Src w B g a n c z k) (o : Obj) : Src (w.alloc o) B g a n c z k :=
  h.keep (Below.heap_alloc w o g h.lt) fun p hp => World.cell?_alloc_lt w o p (by have := h.lt; have := h.old; omega)
theorem Src.setCell (h : Src w B g a n c z k) {p : Addr} (hp : B ≤ p.block) (hg : p.block ≠ g) (u : Value) : Src (w.setCell p u) B g a n c z k :=
  h.keep (Below.heap_setCell w p u g (Ne.symm hg)) fun q hq => World.cell?_setCell_other w p q u (fun e => by subst e; omega)
theorem Src.next (h : Src w B g a n c z k) (hk : k < n) : Src (w.setCell ⟨g, 1, none⟩ (.int .i64 ((k + 1 : Nat) : Int))) B g a n c z (k + 1) :=
  ⟨h.blk.put 1 _, h.old, hk, h.most, fun i hi => by
    obtain ⟨b, o, e, hlt, hcell⟩ := h.num i hi
    exact ⟨b, o, e, hlt, (World.cell?_setCell_other w ⟨g, 1, none⟩ _ _ (fun e => by injection e with e _ _; have := h.old; omega)).trans hcell⟩⟩
theorem Src.setRow (h : Src w B g a n c z k) {g' : Nat} (hp : B ≤ g') (hg : g' ≠ g) (cs : Array Value) : Src (w.setRow g' cs) B g a n c z k :=
  h.keep (setRow_other w g' g cs (Ne.symm hg)) fun q hq => cell_setRow_other w g' cs q (by omega)
/-- Only the source may have turned, and what is new. -/
theorem Src.grown (h : Src w B g a n c z k) (hg : w.grownBy w' none) : Src w' B g a n c z k :=
  h.keep (hg.block g h.lt (by simp)) fun p hp => World.cell?_of_block (hg.block p.block (by have := h.lt; have := h.old; omega) (by simp))
end

theorem next_end (w : World) (B g : Nat) (a : Option Addr) (n c k : Nat) (z : Nat → Int) (m : Int) (hs : Src w B g a n c z k) (hk : n ≤ k) :
    Calls Tryd.prog 23 #[.pointer (some ⟨g, 0, none⟩), .int .i64 m] w fun e w' => e = .returned (.int .i64 0) ∧ ∃ q, w' = w.drewN q := by
  have c0 : w.cell? ⟨g, 0, none⟩ = some (.slice a n c) := hs.blk.cell 0
  have c1 : w.cell? ⟨g, 1, none⟩ = some (.int .i64 k) := hs.blk.cell 1
  clear hs
  go_enter Tryd.func23, Tryd.ntmps23
  go_wp2_with fail
  go_quiet (fail)
  go_wp2
  go_ret
  exact ⟨rfl, _, rfl⟩

theorem next_more (w : World) (B g : Nat) (a : Option Addr) (n c k : Nat) (z : Nat → Int) (m : Int) (hs : Src w B g a n c z k) (hk : k < n) (h : 1 ≤ m) (hm : m ≤ 1099511627776) :
    Calls Tryd.prog 23 #[.pointer (some ⟨g, 0, none⟩), .int .i64 m] w fun e w' => e = .returned (.int .i64 (z k % m)) ∧ ∃ q, w' = (w.drewN q).setCell ⟨g, 1, none⟩ (.int .i64 ((k + 1 : Nat) : Int)) := by
  have hn := hs.most
  obtain ⟨b, o, rfl, hb, hc⟩ := hs.num k hk
  have c0 : w.cell? ⟨g, 0, none⟩ = some (.slice (some ⟨b, o, none⟩) n c) := hs.blk.cell 0
  have c1 : w.cell? ⟨g, 1, none⟩ = some (.int .i64 k) := hs.blk.cell 1
  have f1 : w.frozen? ⟨g, 1, none⟩ = false := hs.blk.frozen 1
  clear hs
  have i0 : (0 : Int) ≤ (k : Int) := by omega
  have i1 : (k : Int) < (n : Int) := by omega
  go_enter Tryd.func23, Tryd.ntmps23
  go_wp2_with fail
  go_quiet (fail)
  go_wp2_with fail
  go_quiet (fail)
  go_wp2_with (go_at_call 11; refine (mod_any _ _ _ h hm).mono ?_; rintro e w' ⟨rfl, rfl⟩)
  go_ret
  exact ⟨rfl, _, by go_num⟩

/-- A number from 0 to m - 1; the source, and nothing else that was there, may have turned. -/
def Given (B g : Nat) (a : Option Addr) (n c : Nat) (z : Nat → Int) (m : Int) (w : World) (e : Ending) (w' : World) : Prop :=
  ∃ r k', 0 ≤ r ∧ r < m ∧ e = .returned (.int .i64 r) ∧ Src w' B g a n c z k' ∧ w.grownBy w' (some g)

theorem next_any (w : World) (B g : Nat) (a : Option Addr) (n c : Nat) (z : Nat → Int) (m : Int) (hs : ∃ k, Src w B g a n c z k) (h : 1 ≤ m) (hm : m ≤ 1099511627776) :
    Calls Tryd.prog 23 #[.pointer (some ⟨g, 0, none⟩), .int .i64 m] w (Given B g a n c z m w) := by
  obtain ⟨k, hs⟩ := hs
  rcases Nat.lt_or_ge k n with hk | hk
  · refine (next_more w B g a n c k z m hs hk h hm).mono ?_
    rintro e w' ⟨rfl, q, rfl⟩
    exact ⟨_, _, Int.emod_nonneg _ (by omega), Int.emod_lt_of_pos _ (by omega), rfl, (hs.drewN q).next hk, grown_setCell (grown_drewN (grown_refl _ _) q) (.inl rfl) _⟩
  · refine (next_end w B g a n c k z m hs hk).mono ?_
    rintro e w' ⟨rfl, q, rfl⟩
    exact ⟨0, k, by omega, by omega, rfl, hs.drewN q, grown_drewN (grown_refl _ _) q⟩
end Go.Proofs.YtkafmpgihhnhdaaDoor
