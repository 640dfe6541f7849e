/-
  cnclaw16.awake returns true. No condition beyond what the variables hold.
-/
import Derived.Test.YtlpmbjgimllmgaaDoorFormat16
import Derived.Test.YtlpmbjgimllmgaaDoorTable16
import Derived.Test.YtlpmbjgimllmgaaDoorLen16
namespace Go.Proofs.YtlpmbjgimllmgaaDoor
open Go Go.RowKit
set_option linter.unusedVariables false

/-- A line that has not four fields is no tool. -/
theorem tool_short (s : ByteArray) (hs : s.size ≤ 1000000) (w : World) (hE : Env w) (h4 : (splitL 32 (bl s)).length ≠ 4) :
    Calls Tryd.prog 35 #[.string s] w fun e w' => e = .returned (.tuple #[.agg #[.int .i64 0, .int .i64 0, .int .i64 0, .int .i64 0], .bool false]) ∧ Below w.heap.size w w' := by
  have b1 := (Below.refl w.heap.size w).alloc (Nat.le_refl _) (.cells #[.int .i64 0, .int .i64 0, .int .i64 0, .int .i64 0] 29)
  have B1 := Blk.new w 29 #[.int .i64 0, .int .i64 0, .int .i64 0, .int .i64 0]
  have hsz1 : (w.alloc (.cells #[.int .i64 0, .int .i64 0, .int .i64 0, .int .i64 0] 29)).heap.size = w.heap.size + 1 := Array.size_push _
  have hlow := hE.low
  obtain ⟨w1, hw1⟩ : ∃ w1, w.alloc (.cells #[.int .i64 0, .int .i64 0, .int .i64 0, .int .i64 0] 29) = w1 := ⟨_, rfl⟩
  rw [hw1] at b1 B1 hsz1
  have KS := split_run 32 s hs w1 (hE.below b1 hlow)
  obtain ⟨L, hL⟩ : ∃ L, splitL 32 (bl s) = L := ⟨_, rfl⟩
  have hLn : L.length ≤ s.size + 1 := by rw [← hL, ← bl_len s]; exact splitL_len 32 (bl s)
  rw [hL] at KS h4
  have d4 : (((L.length : Nat) : Int) != 4) = true := bne_iff_ne.2 (by omega)
  obtain ⟨w2, hw2⟩ : ∃ w2, w1.alloc (.cells ((L.map mkB).map Value.string).toArray 9) = w2 := ⟨_, rfl⟩
  rw [hw2] at KS
  have b12 : Below w1.heap.size w1 w2 := by rw [← hw2]; exact (Below.refl _ _).alloc (Nat.le_refl _) _
  have B2 := B1.below b12 (by omega)
  have b2 : Below w.heap.size w w2 := b1.trans (b12.mono (by omega))
  have KS := Lib.hid KS
  have HB2 := Lib.hid B2
  have FIN := Lib.hid (below_row b2 (g := w.heap.size) (Nat.le_refl _) #[.int .i64 0, .int .i64 0, .int .i64 0, .int .i64 0])
  have BB := B2.setRow #[.int .i64 0, .int .i64 0, .int .i64 0, .int .i64 0]
  have HBB := Lib.hid BB
  clear B1 b1 b12 B2 b2 hw2 hL h4 BB
  go_enter Tryd.func35, Tryd.ntmps35
  go_wp2_with fail
  try rw [hw1]
  refine KS.out.mono ?_
  rintro e w' ⟨rfl, rfl⟩
  go_wp2_with (first
    | ((with_reducible refine go_built 29 _ #[.int .i64 0, .int .i64 0, .int .i64 0, .int .i64 0] (by with_unfolding_all kernel_rfl) ?_))
    | ((with_reducible refine go_store_row 29 (.tmp 2) (.tmp 14) w.heap.size #[.int .i64 0, .int .i64 0, .int .i64 0, .int .i64 0] 29 #[.int .i64 0, .int .i64 0, .int .i64 0, .int .i64 0] (by with_unfolding_all rfl) (by with_unfolding_all rfl) (by with_unfolding_all exact HB2.out) (by with_unfolding_all kernel_rfl) (by with_unfolding_all rfl) (by with_unfolding_all rfl) ?_)))
  have q0 := HBB.out.cell 0
  have q1 := HBB.out.cell 1
  have q2 := HBB.out.cell 2
  have q3 := HBB.out.cell 3
  have q0 : (w'.setRow w.heap.size #[.int .i64 0, .int .i64 0, .int .i64 0, .int .i64 0]).cell? ⟨w.heap.size, 0, none⟩ = some (.int .i64 0) := q0
  have q1 : (w'.setRow w.heap.size #[.int .i64 0, .int .i64 0, .int .i64 0, .int .i64 0]).cell? ⟨w.heap.size, 1, none⟩ = some (.int .i64 0) := q1
  have q2 : (w'.setRow w.heap.size #[.int .i64 0, .int .i64 0, .int .i64 0, .int .i64 0]).cell? ⟨w.heap.size, 2, none⟩ = some (.int .i64 0) := q2
  have q3 : (w'.setRow w.heap.size #[.int .i64 0, .int .i64 0, .int .i64 0, .int .i64 0]).cell? ⟨w.heap.size, 3, none⟩ = some (.int .i64 0) := q3
  refine bodyPost_ret (v := .tuple #[.agg #[.int .i64 0, .int .i64 0, .int .i64 0, .int .i64 0], .bool false]) (by simp [results, Tryd.results35, go_sem, q0, q1, q2, q3]) rfl ?_
  exact ⟨rfl, FIN.out⟩
def a123 : ByteArray := ⟨#[49, 32, 50, 32, 51, 10]⟩
theorem a123_cut : cutL 10 (bl a123) = some ([49, 32, 50, 32, 51], []) := by with_unfolding_all kernel_rfl
theorem a123_split : (splitL 32 [49, 32, 50, 32, 51]).length ≠ 4 := by decide
theorem a123_ne : (a123.toList != []) = true ∧ (a123.toList == []) = false := by rw [toList_bl]; exact ⟨rfl, rfl⟩
set_option maxRecDepth 100000 in
theorem a123_parse (w : World) (hE : Env w) : Calls Tryd.prog 18 #[.string ⟨#[49, 32, 50, 32, 51, 10]⟩] w fun e w' => e = .returned (.tuple #[.slice none 0 0, .int .i64 0, .int .i64 2]) ∧ Below w.heap.size w w' := by
  show Calls Tryd.prog 18 #[.string a123] w fun e w' => e = .returned (.tuple #[.slice none 0 0, .int .i64 0, .int .i64 2]) ∧ Below w.heap.size w w'
  have KC := Lib.hid (cut_run a123 (by decide) w hE)
  have HE := Lib.hid hE
  have hlow := hE.low
  obtain ⟨ne, ne2⟩ := a123_ne
  have HC := Lib.hid a123_cut
  clear hE
  obtain ⟨T, hT⟩ : ∃ T, a123 = T := ⟨_, rfl⟩
  rw [hT] at KC ne ne2 HC ⊢
  clear hT
  go_enter Tryd.func18, Tryd.ntmps18
  go_wp2_with fail
  go_loopw [0, 5] (fun s0 s5 wr => s0 = .string T ∧ s5 = .slice none 0 0 ∧ w = wr)
    (fun _ _ _ => 0)
  case atStart => exact ⟨rfl, rfl, rfl⟩
  case round =>
    obtain ⟨rfl, rfl, rfl⟩ := hrel
    go_wp2_with fail
    refine KC.out.mono ?_
    rintro e w1 ⟨⟨A, B, hcase⟩, b1⟩
    rw [HC.out] at hcase
    obtain ⟨rfl, rfl, rfl⟩ : A = [49, 32, 50, 32, 51] ∧ B = [] ∧ e = .returned (.tuple #[.string (mkB A), .string (mkB B), .bool true]) := by
      rcases hcase with ⟨h1, h2⟩ | ⟨h1, _⟩
      · injection h1 with h1
        injection h1 with h1 h3
        exact ⟨h1.symm, h3.symm, h2⟩
      · cases h1
    have KT := Lib.hid (tool_short (mkB [49, 32, 50, 32, 51]) (by decide) w1 (HE.out.below b1 hlow) (by rw [bl_mkB]; exact a123_split))
    have BEL := Lib.hid b1
    clear b1 KC hcase
    go_wp2_with fail
    refine KT.out.mono ?_
    rintro e w2 ⟨rfl, b2⟩
    have BEL2 := Lib.hid (BEL.out.trans (b2.mono BEL.out.size))
    have sz2 := b2.size
    have sz1 := BEL.out.size
    clear b2 KT
    go_wp2_with fail
    go_ret3
    exact ⟨rfl, BEL2.out.alloc (by omega) _⟩
theorem awake_fmt : mkB (formatT [⟨5, 0, 0, 0⟩]) = ⟨#[53, 32, 48, 32, 48, 32, 48, 10]⟩ := by
  have h5 : Lib.itoa 5 = [53] := by unfold Lib.itoa; rw [if_neg (by decide)]; exact Lib.decDigits_one (by decide)
  have h0 : Lib.itoa 0 = [48] := by unfold Lib.itoa; rw [if_neg (by decide)]; exact Lib.decDigits_one (by decide)
  have hv : validT [⟨5, 0, 0, 0⟩] = true := by decide
  unfold formatT
  rw [if_pos hv]
  unfold fmtOs fmtO
  simp only [List.flatMap_cons, List.flatMap_nil]
  rw [h5, h0]
  rfl
theorem awake_len : lenR [⟨1000, -10, 500, 0⟩] 44 1 = (-990, 0) := by decide
theorem tos_new (W : World) (t : To) : TosAt (W.alloc (.cells (toC t).toArray 29)) (some ⟨W.heap.size, 0, none⟩) [t] := fun i t' hi => by
  have hi0 : i = 0 := by
    have := (List.getElem?_eq_some_iff.1 hi).1
    simp at this
    omega
  subst hi0
  simp at hi
  subst hi
  refine ⟨W.heap.size, 0, rfl, (Blk.new W _ _).lt, fun j u hu => ?_⟩
  rw [Nat.zero_mul, Nat.zero_add, (Blk.new W 29 (toC t).toArray).cell]
  simpa using hu
set_option maxRecDepth 100000 in
set_option maxHeartbeats 1000000 in
theorem awake_true (w : World) (hE : Env w) : Calls Tryd.prog 10 #[] w fun e w' => e = .returned (.bool true) ∧ Below w.heap.size w w' := by
  have hlow := hE.low
  have b0 := (Below.refl w.heap.size w).alloc (Nat.le_refl _) (.cells #[.int .i64 1000, .int .i64 (-10), .int .i64 500, .int .i64 0] 29)
  have KL := length_any (some ⟨w.heap.size, 0, none⟩) 1 [⟨1000, -10, 500, 0⟩] 44 1 _ (tos_new w ⟨1000, -10, 500, 0⟩) (by decide)
  rw [awake_len] at KL
  have KL := Lib.hid KL
  have HE := Lib.hid (hE.below b0 hlow)
  have B0 := Lib.hid b0
  clear b0 hE
  go_enter Tryd.func10, Tryd.ntmps10
  go_wp2_with (first
    | ((with_reducible refine go_built 29 _ #[.int .i64 1000, .int .i64 (-10), .int .i64 500, .int .i64 0] (by with_unfolding_all kernel_rfl) ?_))
    | ((with_reducible refine go_to1 (.tmp 7) 1000 (-10) 500 0 (by with_unfolding_all rfl) ?_)))
  refine KL.out.mono ?_
  rintro e w1 ⟨rfl, b1⟩
  have hs1 := b1.size
  simp only [World.alloc, Array.size_push] at hs1
  have BEL1 := Lib.hid (B0.out.trans (b1.mono (by simp)))
  have HE1 := Lib.hid (HE.out.below b1 (by simp; omega))
  have KP := Lib.hid (a123_parse w1 HE1.out)
  clear b1 KL HE
  unfold offV
  go_wp2_with fail
  refine KP.out.mono ?_
  rintro e w2 ⟨rfl, b2⟩
  have hs2 := b2.size
  have BEL2 := Lib.hid (BEL1.out.trans (b2.mono (by omega)))
  have HE2 := HE1.out.below b2 (by omega)
  have b3 := (Below.refl w2.heap.size w2).alloc (Nat.le_refl _) (.cells #[.int .i64 5, .int .i64 0, .int .i64 0, .int .i64 0] 29)
  have KF := format_any (some ⟨w2.heap.size, 0, none⟩) 1 [⟨5, 0, 0, 0⟩] _ (tos_new w2 ⟨5, 0, 0, 0⟩) (by decide) (HE2.below b3 (by omega))
  rw [awake_fmt] at KF
  have KF := Lib.hid KF
  have B3 := Lib.hid b3
  clear b2 KP HE1 HE2 b3
  go_wp2_with (first
    | ((with_reducible refine go_built 29 _ #[.int .i64 5, .int .i64 0, .int .i64 0, .int .i64 0] (by with_unfolding_all kernel_rfl) ?_))
    | ((with_reducible refine go_to1 (.tmp 32) 5 0 0 0 (by with_unfolding_all rfl) ?_)))
  refine KF.out.mono ?_
  rintro e w4 ⟨rfl, b4⟩
  go_wp2_with fail
  go_ret
  exact ⟨rfl, (BEL2.out.trans (B3.out.mono (by omega))).trans (b4.mono (by simp; omega))⟩
end Go.Proofs.YtlpmbjgimllmgaaDoor
