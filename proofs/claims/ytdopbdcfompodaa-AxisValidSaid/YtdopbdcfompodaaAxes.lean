/-
  What cncmill.Axes leaves: three valid axes; nothing that was there has turned. No condition beyond the types.
-/
import Derived.Test.YtdopbdcfompodaaAxis
namespace Go.Proofs.Ytdopbdcfompodaa
open Go Go.RowKit
set_option linter.unusedVariables false

theorem from_any (w : World) (a : Option Addr) (n c : Nat) :
    Calls Try.prog 17 #[.slice a n c] w fun e w' => e = .returned (.pointer (some ⟨w.heap.size, 0, none⟩)) ∧ w' = w.alloc (.cells #[.slice a n c, .int .i64 0] 41) := by
  go_enter Try.func17, Try.ntmps17
  go_wp2
  go_ret
  exact ⟨rfl, rfl⟩

def AxesDone (w : World) (e : Ending) (w' : World) : Prop :=
  ∃ v1 v2 v3 : AxisV, e = .returned (.agg (v1.cells ++ v2.cells ++ v3.cells)) ∧ v1.Good ∧ v2.Good ∧ v3.Good ∧ Below w.heap.size w w' ∧ w'.ownsRow w.heap.size 3 1 (.slice v1.pa v1.pn v1.pc) v1.pn (v1.ps.map (Value.int .i64))

set_option maxRecDepth 100000 in
theorem axes_any (w : World) (a : Option Addr) (n c : Nat) (z : List Int) (hr : IsRow .i64 w a n c z) :
    Calls Try.prog 9 #[.slice a n c] w (AxesDone w) := by
  have hnum := hr.num
  have hmost := hr.most
  have hs0 : ∀ o, Src ((w.alloc o).alloc (.cells #[.slice a n c, .int .i64 0] 41)) w.heap.size (w.heap.size + 1) a n c (fun i => z.getD i 0) 0 := by
    intro o
    refine ⟨by have := Blk.new (w.alloc o) 41 #[.slice a n c, .int .i64 0]; simpa using this, by omega, by omega, by omega, fun i hi => ?_⟩
    obtain ⟨b, off, e, hb, hc⟩ := hnum i hi
    exact ⟨b, off, e, hb, by rw [World.cell?_alloc_lt _ _ _ (by simp; omega), World.cell?_alloc_lt _ _ _ hb]; exact hc⟩
  go_enter Try.func9, Try.ntmps9
  go_wp2_with (go_at_call 17; refine (from_any _ _ _ _).mono ?_; rintro e w' ⟨rfl, rfl⟩)
  refine calls_told (fun w' => Src w' w.heap.size (w.heap.size + 1) a n c (fun i => z.getD i 0) 0 ∧ (∃ cs, cs.size = 30 ∧ Blk w' w.heap.size 26 cs) ∧ Below w.heap.size w w') ⟨hs0 _, ⟨_, rfl, (Blk.new _ _ _).alloc _⟩, ((Below.refl _ _).alloc (Nat.le_refl _) _).alloc (by simp) _⟩ ?_
  rintro w0 ⟨s0, ⟨cs, hcs, hb0⟩, bel0⟩
  clear hs0
  refine (axis_any w0 _ _ a n c _ _ s0).mono ?_
  rintro e w1 ⟨v1, rfl, g1, ⟨k1, s1⟩, gr1, own1⟩
  have hb1 := hb0.grown gr1 (by simp)
  have bel1 : Below w.heap.size w w1 := bel0.trans (below_of_grown gr1 bel0.size (by intro k hk; injection hk; omega))
  dsimp only [AxisV.cells]
  go_wp2_with fail
  refine (axis_any w1 _ _ a n c _ _ s1).mono ?_
  rintro e w2 ⟨v2, rfl, g2, ⟨k2, s2⟩, gr2, own2⟩
  have hb2 := hb1.grown gr2 (by simp)
  have bel2 : Below w.heap.size w w2 := bel1.trans (below_of_grown gr2 bel1.size (by intro k hk; injection hk; omega))
  have own1' := own_grown (own_base (base' := w.heap.size + 2) own1 (by have := s0.lt; omega)) gr2 (by intro k hk; injection hk; omega)
  clear own2 own1 s1 s0 hb0 hb1
  dsimp only [AxisV.cells]
  go_wp2_with fail
  refine (axis_any w2 _ _ a n c _ _ s2).mono ?_
  rintro e w3 ⟨v3, rfl, g3, ⟨k3, s3⟩, gr3, own3⟩
  have hb3 := hb2.grown gr3 (by simp)
  have bel3 : Below w.heap.size w w3 := bel2.trans (below_of_grown gr3 bel2.size (by intro k hk; injection hk; omega))
  have own1'' := own_grown own1' gr3 (by intro k hk; injection hk; omega)
  have fin : ∀ cs', AxesDone w (.returned (.agg (v1.cells ++ v2.cells ++ v3.cells))) (w3.setRow w.heap.size cs') := fun cs' =>
    ⟨v1, v2, v3, rfl, g1, g2, g3, below_row bel3 (Nat.le_refl _) _, own_base (own_grown (row := some w.heap.size) own1'' (grown_setRow (grown_refl _ _) (.inl rfl) _) (by intro k hk; injection hk; omega)) (by omega)⟩
  simp only [AxisV.cells, List.append_toArray, List.cons_append, List.nil_append] at fin
  have FIN := Lib.hid fin
  clear fin own1'' own3 own1' s2 hb2
  dsimp only [AxisV.cells]
  go_wp2_with (refine wpList_store_row rfl 26 _ _ rfl w.heap.size _ rfl rfl 26 cs hb3 (by kernel_rfl) hcs (by simp [Value.oneCell']) ?_)
  refine bodyPost_ret (results_cell_row rfl _ _ w.heap.size 26 _ (0, 0) _ rfl (hb3.setRow _) Try.underlying26 rfl (by kernel_rfl)) rfl ?_
  exact FIN.out _
end Go.Proofs.Ytdopbdcfompodaa
