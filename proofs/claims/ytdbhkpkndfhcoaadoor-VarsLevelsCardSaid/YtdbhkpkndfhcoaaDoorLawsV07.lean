/-
  cncmake.Mod and Between, cncref07.Local, cnclaw07.awake; VarsLocal returns true. Its arguments: any.
-/
import Derived.Test.YtdbhkpkndfhcoaaDoorPush07
namespace Go.Proofs.YtdbhkpkndfhcoaaDoor
open Go Go.RowKit
set_option linter.unusedVariables false

theorem tmod_bd (v n : Int) (h : 1 ≤ n) : -n < v.tmod n ∧ v.tmod n < n := by
  have h0 := Int.emod_nonneg v (show n ≠ 0 by omega)
  have h1 := Int.emod_lt_of_pos v (show 0 < n by omega)
  rw [Int.tmod_eq_emod]
  split <;> omega
theorem tmod_emod (v n : Int) (h : 1 ≤ n) : (v.tmod n < 0 → v.tmod n + n = v % n) ∧ (¬ v.tmod n < 0 → v.tmod n = v % n) := by
  have h0 := Int.emod_nonneg v (show n ≠ 0 by omega)
  have h1 := Int.emod_lt_of_pos v (show 0 < n by omega)
  rw [Int.tmod_eq_emod]
  split <;> omega
theorem mod_any (v n : Int) (w : World) (h : 1 ≤ n) (hn : n ≤ 9007199254740992) :
    Calls Tryd.prog 9 #[.int .i64 v, .int .i64 n] w fun e w' => e = .returned (.int .i64 (v % n)) ∧ w = w' := by
  obtain ⟨h3, h4⟩ := tmod_emod v n h
  obtain ⟨h1, h2⟩ := tmod_bd v n h
  have d0 : (n == 0) = false := by simp; omega
  by_cases hr : v.tmod n < 0
  · have H := Lib.hid (h3 hr)
    clear h3 h4
    go_enter Tryd.func9, Tryd.ntmps9
    go_wp2
    go_ret
    exact ⟨ret_int H.out, rfl⟩
  · have H := Lib.hid (h4 hr)
    clear h3 h4
    go_enter Tryd.func9, Tryd.ntmps9
    go_wp2
    go_ret
    exact ⟨ret_int H.out, rfl⟩
theorem between_any (v lo hi : Int) (w : World) (h : lo ≤ hi) (h1 : -1125899906842624 ≤ lo) (h2 : hi ≤ 1125899906842624) :
    Calls Tryd.prog 17 #[.int .i64 v, .int .i64 lo, .int .i64 hi] w fun e w' => e = .returned (.int .i64 (lo + v % (hi - lo + 1))) ∧ w = w' := by
  have hm := fun W => mod_any v (hi - lo + 1) W (by omega) (by omega)
  have hr1 := Int.emod_nonneg v (show hi - lo + 1 ≠ 0 by omega)
  have hr2 := Int.emod_lt_of_pos v (show 0 < hi - lo + 1 by omega)
  generalize v % (hi - lo + 1) = r at *
  have HM := Lib.hid hm
  clear hm
  go_enter Tryd.func17, Tryd.ntmps17
  go_wp2_with (go_at_call 9; refine (HM.out _).mono ?_; rintro e w' ⟨rfl, rfl⟩)
  go_ret
  exact ⟨rfl, rfl⟩
theorem between_bd (v lo hi : Int) (h : lo ≤ hi) : lo ≤ lo + v % (hi - lo + 1) ∧ lo + v % (hi - lo + 1) ≤ hi := by
  have hr1 := Int.emod_nonneg v (show hi - lo + 1 ≠ 0 by omega)
  have hr2 := Int.emod_lt_of_pos v (show 0 < hi - lo + 1 by omega)
  omega

theorem tab_pos {w : World} (ht : Lib.TabIs Tryd.prog w "cnc/vars.numbers" .i64 tabNums) : 0 < w.heap.size := by
  have h := ht.cell gVar 0 (by decide)
  rcases Nat.eq_zero_or_pos w.heap.size with e | e
  · exfalso
    have : w.heap[0]? = none := Array.getElem?_eq_none (by omega)
    simp [World.cell?, this] at h
  · exact e

theorem nums_cell (w : World) (i : Nat) (hi : i < 26) : (w.alloc (.cells (tabNums.map (Value.int .i64)).toArray 3)).cell? ⟨w.heap.size, i, none⟩ = some (.int .i64 (tabNums.getD i 0)) := by
  rw [(Blk.new w _ _).cell]
  have hl : i < tabNums.length := hi
  simp [List.getD, List.getElem?_eq_getElem hl]
theorem rlocal_any (c : Int) (w : World) : Calls Tryd.prog 12 #[.int .i64 c] w fun e w' => e = .returned (.int .i64 (localN c)) ∧ Below w.heap.size w w' := by
  by_cases h : 65 ≤ c ∧ c ≤ 90
  · have hc := nums_cell w (c - 65).toNat (by omega)
    have hl : localN c = tabNums.getD (c - 65).toNat 0 := if_pos h
    rw [← hl] at hc
    obtain ⟨h1, h2⟩ := h
    have hw : IntKind.i64.wrap (c - 65) = c - 65 := by rw [IntKind.wrap_i64]; omega
    have i1 : (0 : Int) ≤ c - 65 := by omega
    have i2 : c - 65 < 26 := by omega
    have hb := (Below.refl w.heap.size w).alloc (Nat.le_refl _) (.cells (tabNums.map (Value.int .i64)).toArray 3)
    unfold tabNums at hc hb
    simp only [List.map_cons, List.map_nil] at hc hb
    clear hl
    go_enter Tryd.func12, Tryd.ntmps12
    go_wp2
    go_ret
    exact ⟨ret_int rfl, hb⟩
  · have hl : localN c = 0 := if_neg h
    rw [hl]
    by_cases h1 : 65 ≤ c
    · have h2 : 90 < c := by omega
      go_enter Tryd.func12, Tryd.ntmps12
      go_wp2
      go_ret
      exact ⟨ret_int rfl, Below.refl _ _⟩
    · have h2 : c < 65 := by omega
      go_enter Tryd.func12, Tryd.ntmps12
      go_wp2
      go_ret
      exact ⟨ret_int rfl, Below.refl _ _⟩

theorem args1 (W : World) (c v : Int) : ArgsAt (W.alloc (.cells #[.int .i64 c, .int .i64 v] 36)) (some ⟨W.heap.size, 0, none⟩) [(c, v)] := by
  intro i c' v' h
  rcases i with _ | i
  · simp at h
    obtain ⟨rfl, rfl⟩ := h
    have hb := Blk.new W 36 #[.int .i64 c, .int .i64 v]
    exact ⟨W.heap.size, 0, rfl, by simp, hb.cell' 0 rfl, hb.cell' 1 rfl⟩
  · simp at h
theorem Only.below' {base s g cap n : Nat} {V : List Int} {C : Nat → Int} {w w' : World} (h : Only s g w w') (hs : StAt w base s g cap n V C) : Below base w w' :=
  h.below hs.2.2.2.1 hs.baseg.1 (by have := hs.2.2.2.1; have := hs.1.lt; omega)

set_option maxRecDepth 100000 in
set_option maxHeartbeats 1000000 in
theorem awake_true (w : World) (ht : Lib.TabIs Tryd.prog w "cnc/vars.numbers" .i64 tabNums) : Calls Tryd.prog 10 #[] w fun e w' => e = .returned (.bool true) ∧ Below w.heap.size w w' := by
  have hw0 := tab_pos ht
  have KN := Lib.hid (new_any w)
  go_enter Tryd.func10, Tryd.ntmps10
  go_wp2_with fail
  refine KN.out.mono ?_
  rintro e w1 ⟨s, g, rfl, h1, b1⟩
  have ba := (Below.refl w1.heap.size w1).alloc (Nat.le_refl _) (.cells #[.int .i64 88, .int .i64 7] 36)
  have bA := b1.trans (ba.mono b1.size)
  have KP := Lib.hid (push_any (some ⟨w1.heap.size, 0, none⟩) [(88, 7)] 1 _ (h1.below ba) (args1 w1 88 7) (by decide) (tab_below ht bA hw0) hw0)
  have h1a := Lib.hid (h1.below ba)
  have TA := Lib.hid (tab_below ht bA hw0)
  clear KN h1 ba
  go_wp2_with fail
  refine KP.out.mono ?_
  rintro e w2 ⟨_, hp⟩
  obtain ⟨he, ho, _, hst⟩ := hp (by omega)
  have e1 : scanA [(88, 7)] (fun _ => false) (fun _ => 0) = (0, updC (fun _ => 0) 23 7) := by with_unfolding_all kernel_rfl
  rw [e1] at he hst
  obtain ⟨g2, c2, _, h2⟩ := hst rfl
  subst he
  have b2 := bA.trans (ho.below' h1a.out)
  have T2 := tab_below ht b2 hw0
  clear KP hp ho hst h1a TA bA b1
  have K1 := get_any 24 w2 h2
  have K2 := fun m => get_any 34 (w2.drewN m) (h2.drewN m)
  have K3 := fun m => set_any 5021 0 (w2.drewN m) (h2.drewN m)
  rw [show getV (1 + 1) _ _ 24 = (7, 0) from by with_unfolding_all kernel_rfl] at K1
  have e34 : getV (1 + 1) (List.replicate 33 0 ++ (List.range 33).map (updC (fun _ => 0) 23 7)) (fun _ => 0) 34 = (0, 6) := getV_none _ _ _ (by unfold noVar; omega)
  simp only [e34] at K2
  have E1 : setE 5021 0 = 13 := if_pos (by omega)
  simp only [E1] at K3
  have H1 := Lib.hid K1
  have H2 := Lib.hid K2
  have H3 := Lib.hid K3
  clear K1 K2 K3 e34
  go_wp2_with fail
  refine H1.out.mono ?_
  rintro e w' ⟨rfl, m, rfl⟩
  go_wp2_with fail
  refine (H2.out m).mono ?_
  rintro e w' ⟨rfl, m2, rfl⟩
  rw [World.drewN_drewN]
  go_wp2_with fail
  refine (H3.out _).mono ?_
  rintro e w3 ⟨rfl, h3, ho3⟩
  have b3 := (below_drewN b2 (m + m2)).trans (ho3.below' (h2.drewN _))
  have T3 := tab_below ht b3 hw0
  have K4 := Lib.hid (level_any _ _ _ _ _ _ _ w3 h3)
  have K5 := Lib.hid (local_any 65 w3 T3)
  have e65 : localN 65 = 1 := by with_unfolding_all kernel_rfl
  rw [e65] at K5
  clear H1 H2 H3 h2 h3 ho3 T2
  go_wp2_with fail
  refine K4.out.mono ?_
  rintro e w' ⟨rfl, rfl⟩
  go_wp2_with fail
  refine K5.out.mono ?_
  rintro e w' ⟨rfl, rfl⟩
  go_wp2_with fail
  go_ret
  exact ⟨rfl, b3⟩
end Go.Proofs.YtdbhkpkndfhcoaaDoor
