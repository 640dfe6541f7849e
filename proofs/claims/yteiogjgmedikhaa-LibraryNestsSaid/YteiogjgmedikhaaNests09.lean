/-
  LibraryNests.
-/
import Derived.Test.YteiogjgmedikhaaAwake09
import Derived.Test.YteiogjgmedikhaaMod09
namespace Go.Proofs.Yteiogjgmedikhaa
open Go Go.RowKit
set_option linter.unusedVariables false
def oneE : Ex := .mk 0 1000000 []
def nestL (x y z : Int) : List BlkL := [⟨4, 0, false, [], zE, oneE, x⟩, ⟨4, 0, false, [], zE, oneE, y⟩, ⟨5, 0, false, [], zE, zE, z⟩, ⟨5, 0, false, [], zE, zE, x⟩]
def nestL3 (x y z : Int) : List BlkL := [⟨4, 0, false, [], zE, oneE, x⟩, ⟨4, 0, false, [], zE, oneE, y⟩, ⟨5, 0, false, [], zE, zE, z⟩]
section
variable {x y z : Int}
theorem three (h : 1 ≤ x ∧ x ≤ 3) : x = 1 ∨ x = 2 ∨ x = 3 := by omega
theorem nest_same (hx : 1 ≤ x ∧ x ≤ 3) (hz : 1 ≤ z ∧ z ≤ 3) : buildB (nestL x x z) = .err 1 11 := by
  rcases three hx with rfl | rfl | rfl <;> rcases three hz with rfl | rfl | rfl <;> rfl
theorem nest_cross (hx : 1 ≤ x ∧ x ≤ 3) (hy : 1 ≤ y ∧ y ≤ 3) (hz : 1 ≤ z ∧ z ≤ 3) (h1 : x ≠ y) (h2 : y ≠ z) : buildB (nestL x y z) = .err 2 11 := by
  rcases three hx with rfl | rfl | rfl <;> rcases three hy with rfl | rfl | rfl <;> rcases three hz with rfl | rfl | rfl <;> first | (exact absurd rfl h1) | (exact absurd rfl h2) | rfl
theorem nest_ok (hx : 1 ≤ x ∧ x ≤ 3) (hy : 1 ≤ y ∧ y ≤ 3) (h1 : x ≠ y) : buildB (nestL x y y) = .ok ⟨[(0, 0)], [3, 2, 1, 0], []⟩ := by
  rcases three hx with rfl | rfl | rfl <;> rcases three hy with rfl | rfl | rfl <;> first | (exact absurd rfl h1) | rfl
theorem nest_open (hx : 1 ≤ x ∧ x ≤ 3) (hy : 1 ≤ y ∧ y ≤ 3) (h1 : x ≠ y) : buildB (nestL3 x y y) = .err 0 11 := by
  rcases three hx with rfl | rfl | rfl <;> rcases three hy with rfl | rfl | rfl <;> first | (exact absurd rfl h1) | rfl
end
theorem nest_blk (x y z : Int) (W : World) (i : Nat) (b : BlkL) (h : (nestL x y z)[i]? = some b) : BlkAt W b (pl0 i) := by
  match i, h with
  | 0, h => injection h with h; subst h; exact plainAt _ 4 0 false 0 0 0 1000000 x 0
  | 1, h => injection h with h; subst h; exact plainAt _ 4 0 false 0 0 0 1000000 y 1
  | 2, h => injection h with h; subst h; exact plainAt _ 5 0 false 0 0 0 0 z 2
  | 3, h => injection h with h; subst h; exact plainAt _ 5 0 false 0 0 0 0 x 3
  | i + 4, h => cases h
theorem nest_at (x y z : Int) (W : World) : BlksAt (W.alloc (.cells #[.int .i64 4, .int .i64 0, .bool false, .slice none 0 0, .int .i64 0, .int .i64 0, .slice none 0 0, .int .i64 0, .int .i64 1000000, .slice none 0 0, .int .i64 x, .int .i64 4, .int .i64 0, .bool false, .slice none 0 0, .int .i64 0, .int .i64 0, .slice none 0 0, .int .i64 0, .int .i64 1000000, .slice none 0 0, .int .i64 y, .int .i64 5, .int .i64 0, .bool false, .slice none 0 0, .int .i64 0, .int .i64 0, .slice none 0 0, .int .i64 0, .int .i64 0, .slice none 0 0, .int .i64 z, .int .i64 5, .int .i64 0, .bool false, .slice none 0 0, .int .i64 0, .int .i64 0, .slice none 0 0, .int .i64 0, .int .i64 0, .slice none 0 0, .int .i64 x] 37)) (nestL x y z) (some ⟨W.heap.size, 0, none⟩) 4 pl0 :=
  BlksAt.lit (bs := nestL x y z) (Blk.new W 37 #[.int .i64 4, .int .i64 0, .bool false, .slice none 0 0, .int .i64 0, .int .i64 0, .slice none 0 0, .int .i64 0, .int .i64 1000000, .slice none 0 0, .int .i64 x, .int .i64 4, .int .i64 0, .bool false, .slice none 0 0, .int .i64 0, .int .i64 0, .slice none 0 0, .int .i64 0, .int .i64 1000000, .slice none 0 0, .int .i64 y, .int .i64 5, .int .i64 0, .bool false, .slice none 0 0, .int .i64 0, .int .i64 0, .slice none 0 0, .int .i64 0, .int .i64 0, .slice none 0 0, .int .i64 z, .int .i64 5, .int .i64 0, .bool false, .slice none 0 0, .int .i64 0, .int .i64 0, .slice none 0 0, .int .i64 0, .int .i64 0, .slice none 0 0, .int .i64 x]) rfl (by simp [nestL]) (fun i b h => nest_blk x y z _ i b h)
/-- The first three. -/
theorem nest_at3 {x y z : Int} {W : World} {g : Nat} (h : BlksAt W (nestL x y z) (some ⟨g, 0, none⟩) 4 pl0) : BlksAt W (nestL3 x y z) (some ⟨g, 0, none⟩) 4 pl0 := by
  have e : ∀ i, i < 3 → blksC (nestL x y z) pl0 i = blksC (nestL3 x y z) pl0 i := fun i hi => by
    match i, hi with
    | 0, _ => rfl
    | 1, _ => rfl
    | 2, _ => rfl
  refine ⟨(h.tab.less (m := 3) (by simp [nestL])).congr e, fun i b hb => h.blk i b ?_, (fun e => by cases e), by simp [nestL3], by omega⟩
  match i, hb with
  | 0, hb => exact hb
  | 1, hb => exact hb
  | 2, hb => exact hb
  | i + 3, hb => cases hb
set_option maxRecDepth 100000 in
set_option maxHeartbeats 1000000 in
theorem nests_walk (a0 a1 a2 : Int) (w : World) (w0 : (Lit.int .i64 a0).wf = true) (w1 : (Lit.int .i64 a1).wf = true) (w2 : (Lit.int .i64 a2).wf = true) :
    Calls Try.prog 7 #[.int .i64 a0, .int .i64 a1, .int .i64 a2] w fun e w' => e = .returned (.bool true) ∧ Below w.heap.size w w' := by
  have KM := Lib.hid (fun v W => mod_any v 3 W (by omega) (by omega))
  have hx : 1 ≤ 1 + a0 % 3 ∧ 1 + a0 % 3 ≤ 3 := by omega
  have hy : 1 ≤ 1 + a1 % 3 ∧ 1 + a1 % 3 ≤ 3 := by omega
  have hz : 1 ≤ 1 + a2 % 3 ∧ 1 + a2 % 3 ≤ 3 := by omega
  clear w0 w1 w2
  go_enter Try.func7, Try.ntmps7
  go_wp2_with (go_at_call 19; refine (KM.out _ _).mono ?_; rintro e w' ⟨rfl, rfl⟩)
  generalize 1 + a0 % 3 = x at *
  generalize 1 + a1 % 3 = y at *
  generalize 1 + a2 % 3 = z at *
  have hat := nest_at x y z (w.alloc (.cells #[.int .i64 0, .int .i64 1000000, .slice none 0 0] 35))
  rw [World.size_alloc] at hat
  have HAT := Lib.hid hat
  have bel1 : Below w.heap.size w ((w.alloc (.cells #[.int .i64 0, .int .i64 1000000, .slice none 0 0] 35)).alloc (.cells #[.int .i64 4, .int .i64 0, .bool false, .slice none 0 0, .int .i64 0, .int .i64 0, .slice none 0 0, .int .i64 0, .int .i64 1000000, .slice none 0 0, .int .i64 x, .int .i64 4, .int .i64 0, .bool false, .slice none 0 0, .int .i64 0, .int .i64 0, .slice none 0 0, .int .i64 0, .int .i64 1000000, .slice none 0 0, .int .i64 y, .int .i64 5, .int .i64 0, .bool false, .slice none 0 0, .int .i64 0, .int .i64 0, .slice none 0 0, .int .i64 0, .int .i64 0, .slice none 0 0, .int .i64 z, .int .i64 5, .int .i64 0, .bool false, .slice none 0 0, .int .i64 0, .int .i64 0, .slice none 0 0, .int .i64 0, .int .i64 0, .slice none 0 0, .int .i64 x] 37)) := ((Below.refl _ _).alloc (Nat.le_refl _) _).alloc (by simp) _
  have B1 := Lib.hid bel1
  have KB := Lib.hid (build_any _ _ _ _ _ hat)
  have KA := Lib.hid awake_true
  clear hat bel1 KM
  refine KB.out.mono ?_
  intro e w1 hp
  unfold LibPost at hp
  by_cases hxy : x = y
  · subst hxy
    rw [nest_same hx hz] at hp
    obtain ⟨rfl, b2⟩ := hp
    have B2 := Lib.hid (B1.out.trans (b2.mono B1.out.size))
    clear b2
    unfold libV
    go_wp2_with (go_at_call 14; refine (KA.out _).mono ?_; rintro e w' ⟨rfl, b9⟩)
    go_ret
    exact ⟨rfl, (B2.out.alloc B2.out.size _).trans (b9.mono (by have := B2.out.size; simp; omega))⟩
  · have e1 : (x == y) = false := by simpa using hxy
    by_cases hyz : y = z
    · subst hyz
      rw [nest_ok hx hy hxy] at hp
      obtain ⟨ab, cb, pl, ap, cp, am, cm, rfl, hlib, b2⟩ := hp
      have B2 := Lib.hid (B1.out.trans (b2.mono B1.out.size))
      have e2 : (y != y) = false := by simp
      have h3 := nest_at3 ((HAT.out.under b2).under ((Below.refl w1.heap.size w1).alloc (Nat.le_refl _) (.cells #[.slice ab 4 cb, .slice ap 1 cp, .slice am 4 cm] 42)))
      have KB3 := Lib.hid (build_any _ _ _ _ _ h3)
      have HOP := Lib.hid (nest_open hx hy hxy)
      clear b2 hlib h3
      unfold libV
      go_wp2_with fail
      refine KB3.out.mono ?_
      intro e w3 hp
      unfold LibPost at hp
      rw [HOP.out] at hp
      obtain ⟨rfl, b3⟩ := hp
      have B3 := Lib.hid ((B2.out.alloc B2.out.size (.cells #[.slice ab 4 cb, .slice ap 1 cp, .slice am 4 cm] 42)).trans (b3.mono (by have := B2.out.size; simp; omega)))
      clear b3 hxy
      unfold libV
      go_wp2_with (go_at_call 14; refine (KA.out _).mono ?_; rintro e w' ⟨rfl, b9⟩)
      go_ret
      exact ⟨rfl, (B3.out.alloc B3.out.size _).trans (b9.mono (by have := B3.out.size; simp; omega))⟩
    · have e2 : (y != z) = true := by simpa using hyz
      rw [nest_cross hx hy hz hxy hyz] at hp
      obtain ⟨rfl, b2⟩ := hp
      have B2 := Lib.hid (B1.out.trans (b2.mono B1.out.size))
      clear b2 hxy hyz
      unfold libV
      go_wp2_with (go_at_call 14; refine (KA.out _).mono ?_; rintro e w' ⟨rfl, b9⟩)
      go_ret
      exact ⟨rfl, (B2.out.alloc B2.out.size _).trans (b9.mono (by have := B2.out.size; simp; omega))⟩
end Go.Proofs.Yteiogjgmedikhaa
