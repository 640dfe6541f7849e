/-
  tools.tool: the tool of a line. Any line.
-/
import Derived.Test.YtlpmbjgimllmgaaDoorPlanP16
import Derived.Test.YtlpmbjgimllmgaaDoorNum16
import Derived.Test.YtlpmbjgimllmgaaDoorAwake16
namespace Go.Proofs.YtlpmbjgimllmgaaDoor
open Go Go.RowKit
set_option linter.unusedVariables false

/-- The tool and whether the line has the form of a tool. -/
def ToolPost (l : List UInt8) (w : World) (e : Ending) (w' : World) : Prop :=
  ∃ t ok, e = .returned (.tuple #[.agg (toC t).toArray, .bool ok]) ∧ toolF l = (if ok = true then some t else none) ∧ Below w.heap.size w w'
theorem ToolPost.bad {l : List UInt8} {w w' : World} (h : toolF l = none) (hb : Below w.heap.size w w') {e : Ending} (he : e = .returned (.tuple #[.agg #[.int .i64 0, .int .i64 0, .int .i64 0, .int .i64 0], .bool false])) : ToolPost l w e w' := ⟨⟨0, 0, 0, 0⟩, false, he, by rw [h]; rfl, hb⟩
theorem ToolPost.good {l : List UInt8} {w w' : World} (x y z u : Int) (h : toolF l = some ⟨x, y, z, u⟩) (hb : Below w.heap.size w w') {e : Ending} (he : e = .returned (.tuple #[.agg #[.int .i64 x, .int .i64 y, .int .i64 z, .int .i64 u], .bool true])) : ToolPost l w e w' := ⟨⟨x, y, z, u⟩, true, he, by rw [h]; rfl, hb⟩
/-- What stands while a line is read: the result's block, the words, the numbers so far. -/
structure TS (w : World) (A B C D : ByteArray) (v0 v1 v2 v3 : Int) (W : World) : Prop where
  res : Blk W w.heap.size 29 #[.int .i64 0, .int .i64 0, .int .i64 0, .int .i64 0]
  row : Blk W (w.heap.size + 1) 9 #[.string A, .string B, .string C, .string D]
  arr : Blk W (w.heap.size + 2) 53 #[.int .i64 v0, .int .i64 v1, .int .i64 v2, .int .i64 v3]
  bel : Below w.heap.size w W
  env : Env W
section
variable {w W W' : World} {A B C D : ByteArray} {v0 v1 v2 v3 : Int}
theorem TS.below (h : TS w A B C D v0 v1 v2 v3 W) (hb : Below W.heap.size W W') : TS w A B C D v0 v1 v2 v3 W' :=
  ⟨h.res.below hb h.res.lt, h.row.below hb h.row.lt, h.arr.below hb h.arr.lt, h.bel.trans (hb.mono h.bel.size), h.env.below hb h.env.low⟩
theorem TS.put (h : TS w A B C D v0 v1 v2 v3 W) (hlow : 4 ≤ w.heap.size) (i : Nat) (u : Value) : Blk (W.setCell ⟨w.heap.size + 2, i, none⟩ u) w.heap.size 29 #[.int .i64 0, .int .i64 0, .int .i64 0, .int .i64 0] ∧ Blk (W.setCell ⟨w.heap.size + 2, i, none⟩ u) (w.heap.size + 1) 9 #[.string A, .string B, .string C, .string D] ∧
    Blk (W.setCell ⟨w.heap.size + 2, i, none⟩ u) (w.heap.size + 2) 53 (#[Value.int .i64 v0, .int .i64 v1, .int .i64 v2, .int .i64 v3].setIfInBounds i u) ∧ Below w.heap.size w (W.setCell ⟨w.heap.size + 2, i, none⟩ u) ∧ Env (W.setCell ⟨w.heap.size + 2, i, none⟩ u) :=
  ⟨h.res.far (by show w.heap.size ≠ w.heap.size + 2; omega) u, h.row.far (by show w.heap.size + 1 ≠ w.heap.size + 2; omega) u, h.arr.put i u, h.bel.setCell (by show w.heap.size ≤ w.heap.size + 2; omega) u,
    h.env.below ((Below.refl w.heap.size W).setCell (p := ⟨w.heap.size + 2, i, none⟩) (by show w.heap.size ≤ w.heap.size + 2; omega) u) hlow⟩
end
set_option maxRecDepth 100000 in
set_option maxHeartbeats 4000000 in
theorem tool_any (s : ByteArray) (hs : s.size ≤ 1000000) (w : World) (hE : Env w) : Calls Tryd.prog 35 #[.string s] w (ToolPost (bl s) w) := by
  have b1 := (Below.refl w.heap.size w).alloc (Nat.le_refl _) (.cells #[.int .i64 0, .int .i64 0, .int .i64 0, .int .i64 0] 29)
  have B1 := Blk.new w 29 #[.int .i64 0, .int .i64 0, .int .i64 0, .int .i64 0]
  have hsz1 : (w.alloc (.cells #[.int .i64 0, .int .i64 0, .int .i64 0, .int .i64 0] 29)).heap.size = w.heap.size + 1 := Array.size_push _
  have hlow := hE.low
  obtain ⟨w1, hw1⟩ : ∃ w1, w.alloc (.cells #[.int .i64 0, .int .i64 0, .int .i64 0, .int .i64 0] 29) = w1 := ⟨_, rfl⟩
  rw [hw1] at b1 B1 hsz1
  have KS := split_run 32 s hs w1 (hE.below b1 hlow)
  obtain ⟨L, hL⟩ : ∃ L, splitL 32 (bl s) = L := ⟨_, rfl⟩
  have hLn : L.length ≤ s.size + 1 := by rw [← hL, ← bl_len s]; exact splitL_len 32 (bl s)
  rw [hL] at KS
  rw [hsz1] at KS
  obtain ⟨w2, hw2⟩ : ∃ w2, w1.alloc (.cells ((L.map mkB).map Value.string).toArray 9) = w2 := ⟨_, rfl⟩
  rw [hw2] at KS
  have b12 : Below w1.heap.size w1 w2 := by rw [← hw2]; exact (Below.refl _ _).alloc (Nat.le_refl _) _
  have B2 := B1.below b12 (by omega)
  have R2 : Blk w2 (w.heap.size + 1) 9 ((L.map mkB).map Value.string).toArray := by
    rw [← hw2, ← hsz1]
    exact Blk.new w1 _ _
  have hsz2 : w2.heap.size = w.heap.size + 2 := by rw [← hw2]; show (w1.heap.push _).size = _; rw [Array.size_push]; omega
  have b2 : Below w.heap.size w w2 := b1.trans (b12.mono (by omega))
  have KS := Lib.hid KS
  clear B1 b1 b12 hw2
  by_cases h4 : L.length = 4
  · obtain ⟨A', B', C', D', rfl⟩ : ∃ A B C D, L = [A, B, C, D] := by
      match L, h4 with
      | [A, B, C, D], _ => exact ⟨A, B, C, D, rfl⟩
    have htf := tool_of hL
    have hsp := split4 hL
    obtain ⟨A, rfl⟩ : ∃ A, A' = bl A := ⟨mkB A', by rw [bl_mkB]⟩
    obtain ⟨B, rfl⟩ : ∃ A, B' = bl A := ⟨mkB B', by rw [bl_mkB]⟩
    obtain ⟨C, rfl⟩ : ∃ A, C' = bl A := ⟨mkB C', by rw [bl_mkB]⟩
    obtain ⟨D, rfl⟩ : ∃ A, D' = bl A := ⟨mkB D', by rw [bl_mkB]⟩
    have hl := congrArg List.length hsp
    simp only [List.length_append, List.length_cons, bl_len] at hl
    have sA : A.size ≤ 1000000 := by omega
    have sB : B.size ≤ 1000000 := by omega
    have sC : C.size ≤ 1000000 := by omega
    have sD : D.size ≤ 1000000 := by omega
    simp only [List.map_cons, List.map_nil, mkB_bl] at R2 KS
    have b3 := b2.alloc (by omega) (.cells #[.int .i64 0, .int .i64 0, .int .i64 0, .int .i64 0] 53)
    have hT3 : TS w A B C D 0 0 0 0 (w2.alloc (.cells #[.int .i64 0, .int .i64 0, .int .i64 0, .int .i64 0] 53)) :=
      ⟨B2.alloc _, R2.alloc _, by rw [← hsz2]; exact Blk.new w2 _ _, b3, hE.below b3 hlow⟩
    have HT3 := Lib.hid hT3
    have HTF := Lib.hid htf
    clear htf hsp hl hL h4 hLn B2 R2 b2 b3 hT3 hE
    go_enter Tryd.func35, Tryd.ntmps35
    go_wp2_with fail
    try rw [hw1]
    refine KS.out.mono ?_
    rintro e w' ⟨rfl, rfl⟩
    clear KS hw1 hsz1
    go_wp2_with fail
    go_loopw [17] (fun s17 wr => ∃ (k : Nat) (vs : Int × Int × Int × Int), k ≤ 4 ∧ s17 = .int .i64 k ∧ ((0 < k → readF (bl A) = some vs.1) ∧ (1 < k → readF (bl B) = some vs.2.1) ∧ (2 < k → readF (bl C) = some vs.2.2.1) ∧ (3 < k → readF (bl D) = some vs.2.2.2)) ∧ TS w A B C D vs.1 vs.2.1 vs.2.2.1 vs.2.2.2 wr)
      (fun s17 _ => 4 - (intOf s17).toNat)
    case atStart => exact ⟨0, (0, 0, 0, 0), by omega, rfl, ⟨fun h => by omega, fun h => by omega, fun h => by omega, fun h => by omega⟩, by simpa [hsz2] using HT3.out⟩
    case round =>
      obtain ⟨k, ⟨v0, v1, v2, v3⟩, hk, rfl, ⟨g0, g1, g2, g3⟩, hT⟩ := hrel
      simp only at g0 g1 g2 g3 hT
      have hk5 : k = 0 ∨ k = 1 ∨ k = 2 ∨ k = 3 ∨ k = 4 := by omega
      clear hk
      rcases hk5 with rfl | rfl | rfl | rfl | rfl
      · skip
        have q0 : wr.cell? ⟨w.heap.size + 1, 0, none⟩ = some (.string A) := hT.row.cell 0
        have fz : ∀ W', Below wr.heap.size wr W' → W'.frozen? ⟨w.heap.size + 2, 0, none⟩ = false := fun W' hb => (hT.below hb).arr.frozen 0
        have cz : ∀ W', Below wr.heap.size wr W' → W'.cell? ⟨w.heap.size + 2, 0, none⟩ = some (.int .i64 v0) := fun W' hb => (hT.below hb).arr.cell 0
        have KN := Lib.hid (number_any A sA wr hT.env)
        have HT := Lib.hid hT
        have FZ := Lib.hid fz
        have CZ := Lib.hid cz
        clear hT fz cz HT3
        go_wp2_with fail
        refine KN.out.mono ?_
        rintro e w5 ⟨n, rfl, hn, b5⟩
        have HT5 := Lib.hid (HT.out.below b5)
        have fz5 := FZ.out w5 b5
        have cz5 := CZ.out w5 b5
        obtain ⟨p1, p2, p3, p4, p5⟩ := HT5.out.put hlow 0 (.int .i64 n)
        have P1 := Lib.hid p1
        have P2 := Lib.hid p2
        have P3 := Lib.hid p3
        have P4 := Lib.hid p4
        have P5 := Lib.hid p5
        clear b5 KN FZ CZ q0 p1 p2 p3 p4 p5 HT
        cases hr : readF (bl A) with
        | none =>
          have R := Lib.hid (by rw [HTF.out, hr]; rfl : toolF (bl s) = none)
          have P4r := Lib.hid (below_row P4.out (g := w.heap.size) (Nat.le_refl _) #[.int .i64 0, .int .i64 0, .int .i64 0, .int .i64 0])
          have BB := P1.out.setRow #[.int .i64 0, .int .i64 0, .int .i64 0, .int .i64 0]
          have z0 : ((w5.setCell ⟨w.heap.size + 2, 0, none⟩ (.int .i64 n)).setRow w.heap.size #[.int .i64 0, .int .i64 0, .int .i64 0, .int .i64 0]).cell? ⟨w.heap.size, 0, none⟩ = some (.int .i64 0) := BB.cell 0
          have z1 : ((w5.setCell ⟨w.heap.size + 2, 0, none⟩ (.int .i64 n)).setRow w.heap.size #[.int .i64 0, .int .i64 0, .int .i64 0, .int .i64 0]).cell? ⟨w.heap.size, 1, none⟩ = some (.int .i64 0) := BB.cell 1
          have z2 : ((w5.setCell ⟨w.heap.size + 2, 0, none⟩ (.int .i64 n)).setRow w.heap.size #[.int .i64 0, .int .i64 0, .int .i64 0, .int .i64 0]).cell? ⟨w.heap.size, 2, none⟩ = some (.int .i64 0) := BB.cell 2
          have z3 : ((w5.setCell ⟨w.heap.size + 2, 0, none⟩ (.int .i64 n)).setRow w.heap.size #[.int .i64 0, .int .i64 0, .int .i64 0, .int .i64 0]).cell? ⟨w.heap.size, 3, none⟩ = some (.int .i64 0) := BB.cell 3
          clear hn BB
          simp only [Option.isSome_none]
          go_wp2_with (first
            | ((with_reducible refine go_built 29 _ #[.int .i64 0, .int .i64 0, .int .i64 0, .int .i64 0] (by with_unfolding_all kernel_rfl) ?_))
            | ((with_reducible refine go_store_row 29 (.tmp 2) (.tmp 31) w.heap.size #[.int .i64 0, .int .i64 0, .int .i64 0, .int .i64 0] 29 #[.int .i64 0, .int .i64 0, .int .i64 0, .int .i64 0] (by with_unfolding_all rfl) (by with_unfolding_all rfl) (by with_unfolding_all exact P1.out) (by with_unfolding_all kernel_rfl) (by with_unfolding_all rfl) (by with_unfolding_all rfl) ?_)))
          refine bodyPost_ret (v := .tuple #[.agg #[.int .i64 0, .int .i64 0, .int .i64 0, .int .i64 0], .bool false]) (by simp [results, Tryd.results35, go_sem, z0, z1, z2, z3]) rfl ?_
          exact ToolPost.bad R.out P4r.out rfl
        | some x =>
          have HR := Lib.hid (show readF (bl A) = some n by rw [hr, hn x hr])
          clear hn hr
          simp only [Option.isSome_some]
          go_wp2_with fail
          go_roundw
          case rel => exact ⟨0 + 1, (n, v1, v2, v3), by omega, by rfl, ⟨fun _ => HR.out, fun h => (by omega), fun h => (by omega), fun h => (by omega)⟩, ⟨P1.out, P2.out, P3.out, P4.out, P5.out⟩⟩
          case measure => simp [intOf]
      · skip
        have q0 : wr.cell? ⟨w.heap.size + 1, 1, none⟩ = some (.string B) := hT.row.cell 1
        have fz : ∀ W', Below wr.heap.size wr W' → W'.frozen? ⟨w.heap.size + 2, 1, none⟩ = false := fun W' hb => (hT.below hb).arr.frozen 1
        have cz : ∀ W', Below wr.heap.size wr W' → W'.cell? ⟨w.heap.size + 2, 1, none⟩ = some (.int .i64 v1) := fun W' hb => (hT.below hb).arr.cell 1
        have KN := Lib.hid (number_any B sB wr hT.env)
        have HT := Lib.hid hT
        have FZ := Lib.hid fz
        have CZ := Lib.hid cz
        clear hT fz cz HT3
        go_wp2_with fail
        refine KN.out.mono ?_
        rintro e w5 ⟨n, rfl, hn, b5⟩
        have HT5 := Lib.hid (HT.out.below b5)
        have fz5 := FZ.out w5 b5
        have cz5 := CZ.out w5 b5
        obtain ⟨p1, p2, p3, p4, p5⟩ := HT5.out.put hlow 1 (.int .i64 n)
        have P1 := Lib.hid p1
        have P2 := Lib.hid p2
        have P3 := Lib.hid p3
        have P4 := Lib.hid p4
        have P5 := Lib.hid p5
        clear b5 KN FZ CZ q0 p1 p2 p3 p4 p5 HT
        cases hr : readF (bl B) with
        | none =>
          have R := Lib.hid (by rw [HTF.out, g0 (by omega), Option.bind_some, hr]; rfl : toolF (bl s) = none)
          have P4r := Lib.hid (below_row P4.out (g := w.heap.size) (Nat.le_refl _) #[.int .i64 0, .int .i64 0, .int .i64 0, .int .i64 0])
          have BB := P1.out.setRow #[.int .i64 0, .int .i64 0, .int .i64 0, .int .i64 0]
          have z0 : ((w5.setCell ⟨w.heap.size + 2, 1, none⟩ (.int .i64 n)).setRow w.heap.size #[.int .i64 0, .int .i64 0, .int .i64 0, .int .i64 0]).cell? ⟨w.heap.size, 0, none⟩ = some (.int .i64 0) := BB.cell 0
          have z1 : ((w5.setCell ⟨w.heap.size + 2, 1, none⟩ (.int .i64 n)).setRow w.heap.size #[.int .i64 0, .int .i64 0, .int .i64 0, .int .i64 0]).cell? ⟨w.heap.size, 1, none⟩ = some (.int .i64 0) := BB.cell 1
          have z2 : ((w5.setCell ⟨w.heap.size + 2, 1, none⟩ (.int .i64 n)).setRow w.heap.size #[.int .i64 0, .int .i64 0, .int .i64 0, .int .i64 0]).cell? ⟨w.heap.size, 2, none⟩ = some (.int .i64 0) := BB.cell 2
          have z3 : ((w5.setCell ⟨w.heap.size + 2, 1, none⟩ (.int .i64 n)).setRow w.heap.size #[.int .i64 0, .int .i64 0, .int .i64 0, .int .i64 0]).cell? ⟨w.heap.size, 3, none⟩ = some (.int .i64 0) := BB.cell 3
          clear hn BB
          simp only [Option.isSome_none]
          go_wp2_with (first
            | ((with_reducible refine go_built 29 _ #[.int .i64 0, .int .i64 0, .int .i64 0, .int .i64 0] (by with_unfolding_all kernel_rfl) ?_))
            | ((with_reducible refine go_store_row 29 (.tmp 2) (.tmp 31) w.heap.size #[.int .i64 0, .int .i64 0, .int .i64 0, .int .i64 0] 29 #[.int .i64 0, .int .i64 0, .int .i64 0, .int .i64 0] (by with_unfolding_all rfl) (by with_unfolding_all rfl) (by with_unfolding_all exact P1.out) (by with_unfolding_all kernel_rfl) (by with_unfolding_all rfl) (by with_unfolding_all rfl) ?_)))
          refine bodyPost_ret (v := .tuple #[.agg #[.int .i64 0, .int .i64 0, .int .i64 0, .int .i64 0], .bool false]) (by simp [results, Tryd.results35, go_sem, z0, z1, z2, z3]) rfl ?_
          exact ToolPost.bad R.out P4r.out rfl
        | some x =>
          have HR := Lib.hid (show readF (bl B) = some n by rw [hr, hn x hr])
          clear hn hr
          simp only [Option.isSome_some]
          go_wp2_with fail
          go_roundw
          case rel => exact ⟨1 + 1, (v0, n, v2, v3), by omega, by rfl, ⟨fun _ => g0 (by omega), fun _ => HR.out, fun h => (by omega), fun h => (by omega)⟩, ⟨P1.out, P2.out, P3.out, P4.out, P5.out⟩⟩
          case measure => simp [intOf]
      · skip
        have q0 : wr.cell? ⟨w.heap.size + 1, 2, none⟩ = some (.string C) := hT.row.cell 2
        have fz : ∀ W', Below wr.heap.size wr W' → W'.frozen? ⟨w.heap.size + 2, 2, none⟩ = false := fun W' hb => (hT.below hb).arr.frozen 2
        have cz : ∀ W', Below wr.heap.size wr W' → W'.cell? ⟨w.heap.size + 2, 2, none⟩ = some (.int .i64 v2) := fun W' hb => (hT.below hb).arr.cell 2
        have KN := Lib.hid (number_any C sC wr hT.env)
        have HT := Lib.hid hT
        have FZ := Lib.hid fz
        have CZ := Lib.hid cz
        clear hT fz cz HT3
        go_wp2_with fail
        refine KN.out.mono ?_
        rintro e w5 ⟨n, rfl, hn, b5⟩
        have HT5 := Lib.hid (HT.out.below b5)
        have fz5 := FZ.out w5 b5
        have cz5 := CZ.out w5 b5
        obtain ⟨p1, p2, p3, p4, p5⟩ := HT5.out.put hlow 2 (.int .i64 n)
        have P1 := Lib.hid p1
        have P2 := Lib.hid p2
        have P3 := Lib.hid p3
        have P4 := Lib.hid p4
        have P5 := Lib.hid p5
        clear b5 KN FZ CZ q0 p1 p2 p3 p4 p5 HT
        cases hr : readF (bl C) with
        | none =>
          have R := Lib.hid (by rw [HTF.out, g0 (by omega), Option.bind_some, g1 (by omega), Option.bind_some, hr]; rfl : toolF (bl s) = none)
          have P4r := Lib.hid (below_row P4.out (g := w.heap.size) (Nat.le_refl _) #[.int .i64 0, .int .i64 0, .int .i64 0, .int .i64 0])
          have BB := P1.out.setRow #[.int .i64 0, .int .i64 0, .int .i64 0, .int .i64 0]
          have z0 : ((w5.setCell ⟨w.heap.size + 2, 2, none⟩ (.int .i64 n)).setRow w.heap.size #[.int .i64 0, .int .i64 0, .int .i64 0, .int .i64 0]).cell? ⟨w.heap.size, 0, none⟩ = some (.int .i64 0) := BB.cell 0
          have z1 : ((w5.setCell ⟨w.heap.size + 2, 2, none⟩ (.int .i64 n)).setRow w.heap.size #[.int .i64 0, .int .i64 0, .int .i64 0, .int .i64 0]).cell? ⟨w.heap.size, 1, none⟩ = some (.int .i64 0) := BB.cell 1
          have z2 : ((w5.setCell ⟨w.heap.size + 2, 2, none⟩ (.int .i64 n)).setRow w.heap.size #[.int .i64 0, .int .i64 0, .int .i64 0, .int .i64 0]).cell? ⟨w.heap.size, 2, none⟩ = some (.int .i64 0) := BB.cell 2
          have z3 : ((w5.setCell ⟨w.heap.size + 2, 2, none⟩ (.int .i64 n)).setRow w.heap.size #[.int .i64 0, .int .i64 0, .int .i64 0, .int .i64 0]).cell? ⟨w.heap.size, 3, none⟩ = some (.int .i64 0) := BB.cell 3
          clear hn BB
          simp only [Option.isSome_none]
          go_wp2_with (first
            | ((with_reducible refine go_built 29 _ #[.int .i64 0, .int .i64 0, .int .i64 0, .int .i64 0] (by with_unfolding_all kernel_rfl) ?_))
            | ((with_reducible refine go_store_row 29 (.tmp 2) (.tmp 31) w.heap.size #[.int .i64 0, .int .i64 0, .int .i64 0, .int .i64 0] 29 #[.int .i64 0, .int .i64 0, .int .i64 0, .int .i64 0] (by with_unfolding_all rfl) (by with_unfolding_all rfl) (by with_unfolding_all exact P1.out) (by with_unfolding_all kernel_rfl) (by with_unfolding_all rfl) (by with_unfolding_all rfl) ?_)))
          refine bodyPost_ret (v := .tuple #[.agg #[.int .i64 0, .int .i64 0, .int .i64 0, .int .i64 0], .bool false]) (by simp [results, Tryd.results35, go_sem, z0, z1, z2, z3]) rfl ?_
          exact ToolPost.bad R.out P4r.out rfl
        | some x =>
          have HR := Lib.hid (show readF (bl C) = some n by rw [hr, hn x hr])
          clear hn hr
          simp only [Option.isSome_some]
          go_wp2_with fail
          go_roundw
          case rel => exact ⟨2 + 1, (v0, v1, n, v3), by omega, by rfl, ⟨fun _ => g0 (by omega), fun _ => g1 (by omega), fun _ => HR.out, fun h => (by omega)⟩, ⟨P1.out, P2.out, P3.out, P4.out, P5.out⟩⟩
          case measure => simp [intOf]
      · skip
        have q0 : wr.cell? ⟨w.heap.size + 1, 3, none⟩ = some (.string D) := hT.row.cell 3
        have fz : ∀ W', Below wr.heap.size wr W' → W'.frozen? ⟨w.heap.size + 2, 3, none⟩ = false := fun W' hb => (hT.below hb).arr.frozen 3
        have cz : ∀ W', Below wr.heap.size wr W' → W'.cell? ⟨w.heap.size + 2, 3, none⟩ = some (.int .i64 v3) := fun W' hb => (hT.below hb).arr.cell 3
        have KN := Lib.hid (number_any D sD wr hT.env)
        have HT := Lib.hid hT
        have FZ := Lib.hid fz
        have CZ := Lib.hid cz
        clear hT fz cz HT3
        go_wp2_with fail
        refine KN.out.mono ?_
        rintro e w5 ⟨n, rfl, hn, b5⟩
        have HT5 := Lib.hid (HT.out.below b5)
        have fz5 := FZ.out w5 b5
        have cz5 := CZ.out w5 b5
        obtain ⟨p1, p2, p3, p4, p5⟩ := HT5.out.put hlow 3 (.int .i64 n)
        have P1 := Lib.hid p1
        have P2 := Lib.hid p2
        have P3 := Lib.hid p3
        have P4 := Lib.hid p4
        have P5 := Lib.hid p5
        clear b5 KN FZ CZ q0 p1 p2 p3 p4 p5 HT
        cases hr : readF (bl D) with
        | none =>
          have R := Lib.hid (by rw [HTF.out, g0 (by omega), Option.bind_some, g1 (by omega), Option.bind_some, g2 (by omega), Option.bind_some, hr]; rfl : toolF (bl s) = none)
          have P4r := Lib.hid (below_row P4.out (g := w.heap.size) (Nat.le_refl _) #[.int .i64 0, .int .i64 0, .int .i64 0, .int .i64 0])
          have BB := P1.out.setRow #[.int .i64 0, .int .i64 0, .int .i64 0, .int .i64 0]
          have z0 : ((w5.setCell ⟨w.heap.size + 2, 3, none⟩ (.int .i64 n)).setRow w.heap.size #[.int .i64 0, .int .i64 0, .int .i64 0, .int .i64 0]).cell? ⟨w.heap.size, 0, none⟩ = some (.int .i64 0) := BB.cell 0
          have z1 : ((w5.setCell ⟨w.heap.size + 2, 3, none⟩ (.int .i64 n)).setRow w.heap.size #[.int .i64 0, .int .i64 0, .int .i64 0, .int .i64 0]).cell? ⟨w.heap.size, 1, none⟩ = some (.int .i64 0) := BB.cell 1
          have z2 : ((w5.setCell ⟨w.heap.size + 2, 3, none⟩ (.int .i64 n)).setRow w.heap.size #[.int .i64 0, .int .i64 0, .int .i64 0, .int .i64 0]).cell? ⟨w.heap.size, 2, none⟩ = some (.int .i64 0) := BB.cell 2
          have z3 : ((w5.setCell ⟨w.heap.size + 2, 3, none⟩ (.int .i64 n)).setRow w.heap.size #[.int .i64 0, .int .i64 0, .int .i64 0, .int .i64 0]).cell? ⟨w.heap.size, 3, none⟩ = some (.int .i64 0) := BB.cell 3
          clear hn BB
          simp only [Option.isSome_none]
          go_wp2_with (first
            | ((with_reducible refine go_built 29 _ #[.int .i64 0, .int .i64 0, .int .i64 0, .int .i64 0] (by with_unfolding_all kernel_rfl) ?_))
            | ((with_reducible refine go_store_row 29 (.tmp 2) (.tmp 31) w.heap.size #[.int .i64 0, .int .i64 0, .int .i64 0, .int .i64 0] 29 #[.int .i64 0, .int .i64 0, .int .i64 0, .int .i64 0] (by with_unfolding_all rfl) (by with_unfolding_all rfl) (by with_unfolding_all exact P1.out) (by with_unfolding_all kernel_rfl) (by with_unfolding_all rfl) (by with_unfolding_all rfl) ?_)))
          refine bodyPost_ret (v := .tuple #[.agg #[.int .i64 0, .int .i64 0, .int .i64 0, .int .i64 0], .bool false]) (by simp [results, Tryd.results35, go_sem, z0, z1, z2, z3]) rfl ?_
          exact ToolPost.bad R.out P4r.out rfl
        | some x =>
          have HR := Lib.hid (show readF (bl D) = some n by rw [hr, hn x hr])
          clear hn hr
          simp only [Option.isSome_some]
          go_wp2_with fail
          go_roundw
          case rel => exact ⟨3 + 1, (v0, v1, v2, n), by omega, by rfl, ⟨fun _ => g0 (by omega), fun _ => g1 (by omega), fun _ => g2 (by omega), fun _ => HR.out⟩, ⟨P1.out, P2.out, P3.out, P4.out, P5.out⟩⟩
          case measure => simp [intOf]
      · have R := Lib.hid (by rw [HTF.out, g0 (by omega), Option.bind_some, g1 (by omega), Option.bind_some, g2 (by omega), Option.bind_some, g3 (by omega)]; rfl : toolF (bl s) = some ⟨v0, v1, v2, v3⟩)
        have a0 : wr.cell? ⟨w.heap.size + 2, 0, none⟩ = some (.int .i64 v0) := hT.arr.cell 0
        have a1 : wr.cell? ⟨w.heap.size + 2, 1, none⟩ = some (.int .i64 v1) := hT.arr.cell 1
        have a2 : wr.cell? ⟨w.heap.size + 2, 2, none⟩ = some (.int .i64 v2) := hT.arr.cell 2
        have a3 : wr.cell? ⟨w.heap.size + 2, 3, none⟩ = some (.int .i64 v3) := hT.arr.cell 3
        have P1 := Lib.hid hT.res
        have P4r := Lib.hid (below_row hT.bel (g := w.heap.size) (Nat.le_refl _) #[.int .i64 v0, .int .i64 v1, .int .i64 v2, .int .i64 v3])
        have BB := P1.out.setRow #[.int .i64 v0, .int .i64 v1, .int .i64 v2, .int .i64 v3]
        have z0 : (wr.setRow w.heap.size #[.int .i64 v0, .int .i64 v1, .int .i64 v2, .int .i64 v3]).cell? ⟨w.heap.size, 0, none⟩ = some (.int .i64 v0) := BB.cell 0
        have z1 : (wr.setRow w.heap.size #[.int .i64 v0, .int .i64 v1, .int .i64 v2, .int .i64 v3]).cell? ⟨w.heap.size, 1, none⟩ = some (.int .i64 v1) := BB.cell 1
        have z2 : (wr.setRow w.heap.size #[.int .i64 v0, .int .i64 v1, .int .i64 v2, .int .i64 v3]).cell? ⟨w.heap.size, 2, none⟩ = some (.int .i64 v2) := BB.cell 2
        have z3 : (wr.setRow w.heap.size #[.int .i64 v0, .int .i64 v1, .int .i64 v2, .int .i64 v3]).cell? ⟨w.heap.size, 3, none⟩ = some (.int .i64 v3) := BB.cell 3
        clear hT HT3 g0 g1 g2 g3 BB HTF
        go_wp2_with (first
          | ((with_reducible refine go_built 29 _ #[.int .i64 v0, .int .i64 v1, .int .i64 v2, .int .i64 v3] (by with_unfolding_all kernel_rfl) ?_))
          | ((with_reducible refine go_store_row 29 (.tmp 2) (.tmp 41) w.heap.size #[.int .i64 v0, .int .i64 v1, .int .i64 v2, .int .i64 v3] 29 #[.int .i64 0, .int .i64 0, .int .i64 0, .int .i64 0] (by with_unfolding_all rfl) (by with_unfolding_all rfl) (by with_unfolding_all exact P1.out) (by with_unfolding_all kernel_rfl) (by with_unfolding_all rfl) (by with_unfolding_all rfl) ?_)))
        refine bodyPost_ret (v := .tuple #[.agg #[.int .i64 v0, .int .i64 v1, .int .i64 v2, .int .i64 v3], .bool true]) (by simp [results, Tryd.results35, go_sem, z0, z1, z2, z3]) rfl ?_
        exact ToolPost.good v0 v1 v2 v3 R.out P4r.out rfl
  · refine (tool_short s hs w hE (by rw [hL]; exact h4)).mono ?_
    rintro e w' ⟨rfl, hb⟩
    exact ToolPost.bad (tool_no (by rw [hL]; exact h4)) hb rfl
end Go.Proofs.YtlpmbjgimllmgaaDoor
