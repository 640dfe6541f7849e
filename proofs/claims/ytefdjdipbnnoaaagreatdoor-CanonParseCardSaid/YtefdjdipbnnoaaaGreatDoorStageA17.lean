/-
  cncstage.Vec, pt: any tape.
-/
import Derived.Test.YtefdjdipbnnoaaaGreatDoorItem17
import Derived.Test.YtefdjdipbnnoaaaGreatDoorTape16
namespace Go.Proofs.YtefdjdipbnnoaaaGreatDoor
open Go Go.RowKit
set_option linter.unusedVariables false

/-- Since the world w only the tape may have turned, and what is new. -/
structure GI (B g : Nat) (a : Option Addr) (n c : Nat) (z : Nat → Int) (w W : World) : Prop where
  src : ∃ k, Src W B g a n c z k
  gr : w.grownBy W (some g)
  lt : g < w.heap.size
  old : B ≤ g
section
variable {B g n c : Nat} {a : Option Addr} {z : Nat → Int} {w W W' : World}
theorem GI.refl (h : ∃ k, Src w B g a n c z k) : GI B g a n c z w w := ⟨h, grown_refl _ _, by obtain ⟨k, h⟩ := h; exact h.lt, by obtain ⟨k, h⟩ := h; exact h.old⟩
theorem GI.size (h : GI B g a n c z w W) : w.heap.size ≤ W.heap.size := h.gr.size
theorem GI.alloc (h : GI B g a n c z w W) (o : Obj) : GI B g a n c z w (W.alloc o) := ⟨by obtain ⟨k, hs⟩ := h.src; exact ⟨k, hs.alloc o⟩, grown_alloc h.gr o, h.lt, h.old⟩
theorem GI.drew (h : GI B g a n c z w W) : GI B g a n c z w W.drew := ⟨by obtain ⟨k, hs⟩ := h.src; exact ⟨k, hs.drew⟩, grown_drew h.gr, h.lt, h.old⟩
theorem GI.set (h : GI B g a n c z w W) {b : Nat} (hb : w.heap.size ≤ b) (i : Nat) (u : Value) : GI B g a n c z w (W.setCell ⟨b, i, none⟩ u) :=
  ⟨by obtain ⟨k, hs⟩ := h.src; exact ⟨k, hs.setCell (by show B ≤ b; have := h.lt; have := h.old; omega) (by show b ≠ g; have := h.lt; omega) u⟩, grown_setCell h.gr (.inr hb) u, h.lt, h.old⟩
theorem GI.row (h : GI B g a n c z w W) {b : Nat} (hb : w.heap.size ≤ b) (cs : Array Value) : GI B g a n c z w (W.setRow b cs) :=
  ⟨by obtain ⟨k, hs⟩ := h.src; exact ⟨k, hs.setRow (by have := h.lt; have := h.old; omega) (by have := h.lt; omega) cs⟩, grown_setRow h.gr (.inr hb) cs, h.lt, h.old⟩
theorem GI.next (h : GI B g a n c z w W) {k : Nat} (hs : Src W' B g a n c z k) (hg : W.grownBy W' (some g)) : GI B g a n c z w W' := ⟨⟨k, hs⟩, grown_trans h.gr hg, h.lt, h.old⟩
theorem GI.trans (h : GI B g a n c z w W) (h' : GI B g a n c z W W') : GI B g a n c z w W' := ⟨h'.src, grown_trans h.gr h'.gr, h.lt, h.old⟩
theorem GI.below (h : GI B g a n c z w W) (hb : Below W.heap.size W W') : GI B g a n c z w W' := by
  have hg := grown_of_below hb
  obtain ⟨k, hs⟩ := h.src
  exact ⟨⟨k, hs.grown hg⟩, grown_trans h.gr (grown_any hg), h.lt, h.old⟩
theorem GI.blk (h : GI B g a n c z w W) {b : Nat} {t : TypeId} {cs : Array Value} (hb : Blk w b t cs) (hne : b ≠ g) : Blk W b t cs := hb.grown h.gr (fun e => hne (by injection e))
end
theorem pt_new1 (w : World) (o : Obj) (t : TypeId) (cs : Array Value) : Blk ((w.alloc o).alloc (.cells cs t)) (w.heap.size + 1) t cs := blk_new1 w o t cs
def VecPost (B g : Nat) (a : Option Addr) (n c : Nat) (z : Nat → Int) (sz : Int) (w : World) (e : Ending) (w' : World) : Prop :=
  ∃ x y u : Int, (-sz ≤ x ∧ x ≤ sz) ∧ (-sz ≤ y ∧ y ≤ sz) ∧ (-sz ≤ u ∧ u ≤ sz) ∧ e = .returned (.agg #[.int .i64 x, .int .i64 y, .int .i64 u]) ∧ GI B g a n c z w w'
set_option maxRecDepth 100000 in
set_option maxHeartbeats 2000000 in
theorem svec_any (w : World) (B g : Nat) (a : Option Addr) (n c : Nat) (z : Nat → Int) (sz : Int) (hs : ∃ k, Src w B g a n c z k) (h0 : 0 ≤ sz) (hm : sz ≤ 1000000) :
    Calls Tryz.prog 25 #[.pointer (some ⟨g, 0, none⟩), .int .i64 sz] w (VecPost B g a n c z sz w) := by
  have J0 := Lib.hid ((GI.refl hs).alloc (.cells #[.int .i64 0, .int .i64 0, .int .i64 0] 23))
  have B0 := Lib.hid (Blk.new w 23 #[.int .i64 0, .int .i64 0, .int .i64 0])
  have hgl := (GI.refl hs).lt
  have hneg : IntKind.i64.wrap (-sz) = -sz := by rw [IntKind.wrap_i64]; omega
  clear hs
  go_enter Tryz.func25, Tryz.ntmps25
  go_wp2_with fail
  refine (range_any _ B g a n c z (-sz) sz J0.out.src (by omega) (by omega) (by omega)).mono ?_
  rintro e w1 ⟨x, k1, hl1, hh1, rfl, hs1, hg1⟩
  have J1 := Lib.hid (J0.out.next hs1 hg1)
  have B1 := Lib.hid (B0.out.grown hg1 (by intro e; injection e; omega))
  clear hs1 hg1 J0 B0
  go_wp2_with fail
  refine (range_any _ B g a n c z (-sz) sz J1.out.src (by omega) (by omega) (by omega)).mono ?_
  rintro e w2 ⟨y, k2, hl2, hh2, rfl, hs2, hg2⟩
  have J2 := Lib.hid (J1.out.next hs2 hg2)
  have B2 := Lib.hid (B1.out.grown hg2 (by intro e; injection e; omega))
  clear hs2 hg2 J1 B1
  go_wp2_with fail
  refine (range_any _ B g a n c z (-sz) sz J2.out.src (by omega) (by omega) (by omega)).mono ?_
  rintro e w3 ⟨u, k3, hl3, hh3, rfl, hs3, hg3⟩
  have J3 := Lib.hid (J2.out.next hs3 hg3)
  have B3 := B2.out.grown hg3 (by intro e; injection e; omega)
  have f0 := B3.frozen 0
  have f1 := B3.frozen 1
  have f2 := B3.frozen 2
  have q0 := B3.cell' 0 rfl
  have q1 := B3.cell' 1 rfl
  have q2 := B3.cell' 2 rfl
  have B3 := Lib.hid B3
  clear hs3 hg3 J2 B2
  go_wp2_with fail
  refine bodyPost_ret (results_cell_row rfl _ _ w.heap.size 23 #[.int .i64 x, .int .i64 y, .int .i64 u] (0, 0) _ rfl (show Blk _ _ _ _ from (((B3.out.put 0 _).put 1 _).put 2 _)) Tryz.underlying23 rfl (by kernel_rfl)) rfl ?_
  exact ⟨x, y, u, ⟨hl1, hh1⟩, ⟨hl2, hh2⟩, ⟨hl3, hh3⟩, rfl, ((J3.out.set (by omega) _ _).set (by omega) _ _).set (by omega) _ _⟩
def PtPost (B g : Nat) (a : Option Addr) (n c : Nat) (z : Nat → Int) (sz : Int) (w : World) (e : Ending) (w' : World) : Prop :=
  ∃ x y : Int, (-sz ≤ x ∧ x ≤ sz) ∧ (-sz ≤ y ∧ y ≤ sz) ∧ e = .returned (.agg #[.int .i64 x, .int .i64 y]) ∧ GI B g a n c z w w'
set_option maxRecDepth 100000 in
set_option maxHeartbeats 2000000 in
theorem spt_any (w : World) (B g : Nat) (a : Option Addr) (n c : Nat) (z : Nat → Int) (sz : Int) (hs : ∃ k, Src w B g a n c z k) (h0 : 0 ≤ sz) (hm : sz ≤ 1000000) :
    Calls Tryz.prog 85 #[.pointer (some ⟨g, 0, none⟩), .int .i64 sz] w (PtPost B g a n c z sz w) := by
  have J0 := Lib.hid ((GI.refl hs).alloc (.cells #[.int .i64 0, .int .i64 0] 88))
  have B0 := Lib.hid (Blk.new w 88 #[.int .i64 0, .int .i64 0])
  have hgl := (GI.refl hs).lt
  have hneg : IntKind.i64.wrap (-sz) = -sz := by rw [IntKind.wrap_i64]; omega
  clear hs
  go_enter Tryz.func85, Tryz.ntmps85
  go_wp2_with fail
  refine (range_any _ B g a n c z (-sz) sz J0.out.src (by omega) (by omega) (by omega)).mono ?_
  rintro e w1 ⟨x, k1, hl1, hh1, rfl, hs1, hg1⟩
  have J1 := Lib.hid (J0.out.next hs1 hg1)
  have B1 := Lib.hid (B0.out.grown hg1 (by intro e; injection e; omega))
  clear hs1 hg1 J0 B0
  go_wp2_with fail
  refine (range_any _ B g a n c z (-sz) sz J1.out.src (by omega) (by omega) (by omega)).mono ?_
  rintro e w2 ⟨y, k2, hl2, hh2, rfl, hs2, hg2⟩
  have J2 := Lib.hid (J1.out.next hs2 hg2)
  have B2 := B1.out.grown hg2 (by intro e; injection e; omega)
  have f0 := B2.frozen 0
  have f1 := B2.frozen 1
  have q0 := B2.cell' 0 rfl
  have q1 := B2.cell' 1 rfl
  have B2 := Lib.hid B2
  clear hs2 hg2 J1 B1
  go_wp2_with fail
  refine bodyPost_ret (results_cell_row rfl _ _ w.heap.size 88 #[.int .i64 x, .int .i64 y] (0, 0) _ rfl (show Blk _ _ _ _ from ((B2.out.put 0 _).put 1 _)) Tryz.underlying88 rfl (by kernel_rfl)) rfl ?_
  exact ⟨x, y, ⟨hl1, hh1⟩, ⟨hl2, hh2⟩, rfl, (J2.out.set (by omega) _ _).set (by omega) _ _⟩
end Go.Proofs.YtefdjdipbnnoaaaGreatDoor
