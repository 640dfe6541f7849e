/-
  cncref07.Store: its cells in memory; New, Level, Get, Set, Host. Stores of 1 to 9 levels; any number, any value.
-/
import Derived.Test.YtdbhkpkndfhcoaaDoorLawsV07
namespace Go.Proofs.YtdbhkpkndfhcoaaDoor
open Go Go.RowKit
set_option linter.unusedVariables false

/-- A reference's store of n levels: its block, the block of its levels, what they hold. -/
def RAt (W : World) (base s g cap n : Nat) (V : List Int) (C : Nat → Int) : Prop :=
  Blk W s 67 (stC (.slice (some ⟨g, 0, none⟩) n cap) C) ∧ W.ownsRow base 71 33 (.slice (some ⟨g, 0, none⟩) n cap) n (V.map (Value.int .i64)) ∧ s ≠ g ∧ base ≤ s ∧ 1 ≤ n ∧ n ≤ 9
theorem RAt.below {W W' : World} {base s g cap n : Nat} {V : List Int} {C : Nat → Int} (h : RAt W base s g cap n V C) (hb : Below W.heap.size W W') : RAt W' base s g cap n V C :=
  ⟨h.1.below hb h.1.lt, h.2.1.kept (grown_of_below hb) (Classical.em _), h.2.2⟩
theorem RAt.drewN {W : World} {base s g cap n : Nat} {V : List Int} {C : Nat → Int} (h : RAt W base s g cap n V C) (m : Nat) : RAt (W.drewN m) base s g cap n V C := h
theorem RAt.len {W : World} {base s g cap n : Nat} {V : List Int} {C : Nat → Int} (h : RAt W base s g cap n V C) : V.length = n * 33 := by have := h.2.1.1; simpa using this
theorem RAt.baseg {W : World} {base s g cap n : Nat} {V : List Int} {C : Nat → Int} (h : RAt W base s g cap n V C) : base ≤ g ∧ g < W.heap.size := h.2.1.lt g rfl
theorem rlocal_at {W : World} {base s g cap n : Nat} {V : List Int} {C : Nat → Int} (h : RAt W base s g cap n V C) {i : Nat} (hi : i < 33) : (n - 1) * 33 + i < n * 33 := by have := h.2.2.2.2.1; omega
theorem rlocal_cell {W : World} {base s g cap n : Nat} {V : List Int} {C : Nat → Int} (h : RAt W base s g cap n V C) {i : Nat} (hi : i < 33) : W.cell? ⟨g, (n - 1) * 33 + i, none⟩ = some (.int .i64 (V.getD ((n - 1) * 33 + i) 0)) := by
  have hl := rlocal_at h hi
  rw [h.2.1.cellAt _ hl, List.getElem?_map]
  have := h.len
  simp [List.getD, List.getElem?_eq_getElem (show (n - 1) * 33 + i < V.length by omega)]
theorem rput_local {W : World} {base s g cap n : Nat} {V : List Int} {C : Nat → Int} (h : RAt W base s g cap n V C) (j : Nat) (v : Int) : RAt (W.setCell ⟨g, j, none⟩ (.int .i64 v)) base s g cap n (V.set j v) C := by
  have := (h.2.1.stored j (.int .i64 v)).1
  rw [← List.map_set] at this
  exact ⟨h.1.far (p := ⟨g, j, none⟩) h.2.2.1 _, this, h.2.2⟩
theorem rput_var {W : World} {base s g cap n : Nat} {V : List Int} {C : Nat → Int} (h : RAt W base s g cap n V C) {i : Nat} (hi : i < 1100) (v : Int) : RAt (W.setCell ⟨s, i + 1, none⟩ (.int .i64 v)) base s g cap n V (updC C i v) := by
  refine ⟨?_, h.2.1.kept (grown_setCell (p := ⟨s, i + 1, none⟩) (grown_refl W (some s)) (.inl rfl) _) (.inr fun e => h.2.2.1 (by have e' : some g = some s := e; exact (Option.some.inj e').symm)), h.2.2⟩
  have := h.1.put (i + 1) (.int .i64 v)
  rwa [stC_set _ _ hi] at this

theorem rnew_built (n : Nat) : Tryd.prog.built 67 [(0, .slice (some ⟨n, 0, none⟩) 1 1)] = some (stC (.slice (some ⟨n, 0, none⟩) 1 1) fun _ => 0) := by with_unfolding_all kernel_rfl
theorem rinfoLevel : (Tryd.prog.info? 71).map (fun i => (i.zero, i.size, i.bytes)) = some (some (.agg (List.replicate 33 (Value.int .i64 0)).toArray), 33, 264) := by kernel_rfl
theorem rmake1 (w : World) : (Instr.makeSlice 65 (.int .i64 1) (.int .i64 1)).run Tryd.prog w = .ok (.slice (some ⟨w.heap.size, 0, none⟩) 1 1) (w.alloc (.cells (List.replicate 33 (Value.int .i64 0)).toArray 71)) := by
  obtain ⟨i0, hi, hz0, hz1, hz2⟩ := info_parts rinfoLevel
  have := run_makeSlice w 65 71 i0 _ Tryd.underlying65 hi hz0 .i64 .i64 1 1 (by omega) (by omega) (by rw [hz1]; decide) (by rw [hz2]; decide) (by omega)
  rw [this, hz1]
  congr 2
  exact congrArg (Obj.cells · 71) (by kernel_rfl)
attribute [local go_sem ↓] rmake1
set_option maxRecDepth 100000 in
theorem rnew_any (w : World) : Calls Tryd.prog 22 #[] w fun e w' => ∃ s g, e = .returned (.pointer (some ⟨s, 0, none⟩)) ∧ RAt w' w.heap.size s g 1 1 (List.replicate 33 0) (fun _ => 0) ∧ Below w.heap.size w w' := by
  go_enter Tryd.func22, Tryd.ntmps22
  go_wp2_with (first
    | ((with_reducible refine go_built 67 _ (stC (.slice (some ⟨w.heap.size, 0, none⟩) 1 1) fun _ => 0) (by with_unfolding_all exact rnew_built _) ?_)))
  go_ret
  have h1 := World.ownsRow_lit (base := w.heap.size) (e := 71) (size := 33) w ((List.replicate 33 (Value.int .i64 0)).toArray) 1 (Nat.le_refl _) (by decide) (by simp)
  have h2 := h1.kept (World.grownBy_alloc _ (.cells (stC (.slice (some ⟨w.heap.size, 0, none⟩) 1 1) fun _ => 0) 67) none) (Classical.em _)
  have h3 := Blk.new (w.alloc (.cells ((List.replicate 33 (Value.int .i64 0)).toArray) 71)) 67 (stC (.slice (some ⟨w.heap.size, 0, none⟩) 1 1) fun _ => 0)
  refine ⟨w.heap.size + 1, w.heap.size, ?_, ⟨?_, ?_, by omega, by omega, by omega, by omega⟩, ?_⟩
  · rfl
  · simpa using h3
  · simpa using h2
  · exact ((Below.refl w.heap.size w).alloc (Nat.le_refl _) _).alloc (by simp) _
theorem rlevel_any (base s g cap n : Nat) (V : List Int) (C : Nat → Int) (w : World) (h : RAt w base s g cap n V C) : Calls Tryd.prog 32 #[.pointer (some ⟨s, 0, none⟩)] w fun e w' => e = .returned (.int .i64 ((n : Int) - 1)) ∧ w = w' := by
  have c0 := (h.1.cell 0).trans (stC_zero _ _)
  have hn : n ≤ 9 := h.2.2.2.2.2
  have hw : IntKind.i64.wrap ((n : Int) - 1) = (n : Int) - 1 := by rw [IntKind.wrap_i64]; omega
  go_enter Tryd.func32, Tryd.ntmps32
  go_wp2
  go_ret
  exact ⟨ret_int rfl, rfl⟩

theorem rloc_yes (k : Int) (w : World) (h1 : 1 ≤ k) (h2 : k ≤ 33) : Calls Tryd.prog 39 #[.int .i64 k] w fun e w' => e = .returned (.bool true) ∧ w = w' := by
  go_enter Tryd.func39, Tryd.ntmps39
  go_wp2
  go_ret
  exact ⟨by first | rfl | (simp; done) | (simp; omega), rfl⟩
theorem rloc_no (k : Int) (w : World) (h : ¬ (1 ≤ k ∧ k ≤ 33)) : Calls Tryd.prog 39 #[.int .i64 k] w fun e w' => e = .returned (.bool false) ∧ w = w' := by
  by_cases h1 : 1 ≤ k
  · have h2 : 33 < k := by omega
    go_enter Tryd.func39, Tryd.ntmps39
    go_wp2
    go_ret
    exact ⟨by first | rfl | (simp; done) | (simp; omega), rfl⟩
  · have h1 : k < 1 := by omega
    go_enter Tryd.func39, Tryd.ntmps39
    go_wp2
    go_ret
    exact ⟨by first | rfl | (simp; done) | (simp; omega), rfl⟩

theorem rcom_yes (k : Int) (w : World) (h1 : 100 ≤ k) (h2 : k ≤ 199) : Calls Tryd.prog 40 #[.int .i64 k] w fun e w' => e = .returned (.bool true) ∧ w = w' := by
  go_enter Tryd.func40, Tryd.ntmps40
  go_wp2
  go_ret
  exact ⟨by first | rfl | (simp; done) | (simp; omega), rfl⟩
theorem rcom_no (k : Int) (w : World) (h : ¬ (100 ≤ k ∧ k ≤ 199)) : Calls Tryd.prog 40 #[.int .i64 k] w fun e w' => e = .returned (.bool false) ∧ w = w' := by
  by_cases h1 : 100 ≤ k
  · have h2 : 199 < k := by omega
    go_enter Tryd.func40, Tryd.ntmps40
    go_wp2
    go_ret
    exact ⟨by first | rfl | (simp; done) | (simp; omega), rfl⟩
  · have h1 : k < 100 := by omega
    go_enter Tryd.func40, Tryd.ntmps40
    go_wp2
    go_ret
    exact ⟨by first | rfl | (simp; done) | (simp; omega), rfl⟩

theorem rsys_yes (k : Int) (w : World) (h1 : 5000 ≤ k) (h2 : k ≤ 5999) : Calls Tryd.prog 41 #[.int .i64 k] w fun e w' => e = .returned (.bool true) ∧ w = w' := by
  go_enter Tryd.func41, Tryd.ntmps41
  go_wp2
  go_ret
  exact ⟨by first | rfl | (simp; done) | (simp; omega), rfl⟩
theorem rsys_no (k : Int) (w : World) (h : ¬ (5000 ≤ k ∧ k ≤ 5999)) : Calls Tryd.prog 41 #[.int .i64 k] w fun e w' => e = .returned (.bool false) ∧ w = w' := by
  by_cases h1 : 5000 ≤ k
  · have h2 : 5999 < k := by omega
    go_enter Tryd.func41, Tryd.ntmps41
    go_wp2
    go_ret
    exact ⟨by first | rfl | (simp; done) | (simp; omega), rfl⟩
  · have h1 : k < 5000 := by omega
    go_enter Tryd.func41, Tryd.ntmps41
    go_wp2
    go_ret
    exact ⟨by first | rfl | (simp; done) | (simp; omega), rfl⟩

theorem rvalid_yes {v : Int} (h : okV v) (w : World) : Calls Tryd.prog 42 #[.int .i64 v] w fun e w' => e = .returned (.bool true) ∧ w = w' := by
  obtain ⟨h1, h2⟩ := h
  go_enter Tryd.func42, Tryd.ntmps42
  go_wp2
  go_ret
  exact ⟨by first | rfl | (simp; done) | (simp; omega), rfl⟩
theorem rvalid_no {v : Int} (h : ¬ okV v) (w : World) : Calls Tryd.prog 42 #[.int .i64 v] w fun e w' => e = .returned (.bool false) ∧ w = w' := by
  unfold okV at h
  by_cases h1 : -1000000000000000 ≤ v
  · have h2 : 1000000000000000 < v := by omega
    clear h
    go_enter Tryd.func42, Tryd.ntmps42
    go_wp2
    go_ret
    exact ⟨by first | rfl | (simp; done) | (simp; omega), rfl⟩
  · have h2 : v < -1000000000000000 := by omega
    clear h h1
    go_enter Tryd.func42, Tryd.ntmps42
    go_wp2
    go_ret
    exact ⟨by first | rfl | (simp; done) | (simp; omega), rfl⟩

set_option maxRecDepth 100000 in
theorem rget_any {base s g cap n : Nat} {V : List Int} {C : Nat → Int} (k : Int) (w : World) (h : RAt w base s g cap n V C) :
    Calls Tryd.prog 31 #[.pointer (some ⟨s, 0, none⟩), .int .i64 k] w fun e w' => e = .returned (.tuple #[.int .i64 (getV n V C k).1, .int .i64 (getV n V C k).2]) ∧ ∃ m, w' = w.drewN m := by
  rcases kinds k with ⟨i, hi, rfl⟩ | ⟨i, hi, rfl⟩ | ⟨i, hi, rfl⟩ | hk
  · rw [getV_local n V C hi]
    have c := rlocal_cell h hi
    have c0 := (h.1.cell 0).trans (stC_zero _ _)
    have hn : n ≤ 9 := h.2.2.2.2.2
    have hn1 : 1 ≤ n := h.2.2.2.2.1
    have hw : IntKind.i64.wrap ((n : Int) - 1) = (n : Int) - 1 := by rw [IntKind.wrap_i64]; omega
    have i0 : (0 : Int) ≤ (n : Int) - 1 := by omega
    have i1 : (n : Int) - 1 < (n : Int) := by omega
    have i2 : ((n : Int) - 1).toNat = n - 1 := by omega
    have i3 : (0 : Int) ≤ (i : Int) := by omega
    have i4 : (i : Int) < 33 := by omega
    have i5 : (i : Int) + 1 - 1 = (i : Int) := by omega
    have KL := Lib.hid (fun W => rloc_yes ((i : Int) + 1) W (by omega) (by omega))
    have KC := Lib.hid (fun W => rcom_no ((i : Int) + 1) W (by omega))
    have KS := Lib.hid (fun W => rsys_no ((i : Int) + 1) W (by omega))
    go_enter Tryd.func31, Tryd.ntmps31
    go_wp2_with (first
      | (go_at_call 39; refine (KL.out _).mono ?_; rintro e w' ⟨rfl, rfl⟩)
      | (go_at_call 40; refine (KC.out _).mono ?_; rintro e w' ⟨rfl, rfl⟩)
      | (go_at_call 41; refine (KS.out _).mono ?_; rintro e w' ⟨rfl, rfl⟩))
    go_quiet (fail)
    go_wp2
    go_ret2
    exact ⟨rfl, _, rfl⟩
  · rw [getV_common n V C hi]
    have c := (h.1.cell (i + 1)).trans (stC_at _ _ (by omega : i < 1100))
    have hf := h.1.frozen (i + 1)
    rw [Nat.add_comm i 1] at c hf
    have i3 : (0 : Int) ≤ (i : Int) := by omega
    have i4 : (i : Int) < 100 := by omega
    have i5 : (i : Int) + 100 - 100 = (i : Int) := by omega
    have KL := Lib.hid (fun W => rloc_no ((i : Int) + 100) W (by omega))
    have KC := Lib.hid (fun W => rcom_yes ((i : Int) + 100) W (by omega) (by omega))
    have KS := Lib.hid (fun W => rsys_no ((i : Int) + 100) W (by omega))
    go_enter Tryd.func31, Tryd.ntmps31
    go_wp2_with (first
      | (go_at_call 39; refine (KL.out _).mono ?_; rintro e w' ⟨rfl, rfl⟩)
      | (go_at_call 40; refine (KC.out _).mono ?_; rintro e w' ⟨rfl, rfl⟩)
      | (go_at_call 41; refine (KS.out _).mono ?_; rintro e w' ⟨rfl, rfl⟩))
    go_ret2
    exact ⟨rfl, 0, rfl⟩
  · rw [getV_system n V C hi]
    have c := (h.1.cell (100 + i + 1)).trans (stC_at _ _ (by omega : 100 + i < 1100))
    have hf := h.1.frozen (100 + i + 1)
    rw [show 100 + i + 1 = 101 + i by omega] at c hf
    have i3 : (0 : Int) ≤ (i : Int) := by omega
    have i4 : (i : Int) < 1000 := by omega
    have i5 : (i : Int) + 5000 - 5000 = (i : Int) := by omega
    have KL := Lib.hid (fun W => rloc_no ((i : Int) + 5000) W (by omega))
    have KC := Lib.hid (fun W => rcom_no ((i : Int) + 5000) W (by omega))
    have KS := Lib.hid (fun W => rsys_yes ((i : Int) + 5000) W (by omega) (by omega))
    go_enter Tryd.func31, Tryd.ntmps31
    go_wp2_with (first
      | (go_at_call 39; refine (KL.out _).mono ?_; rintro e w' ⟨rfl, rfl⟩)
      | (go_at_call 40; refine (KC.out _).mono ?_; rintro e w' ⟨rfl, rfl⟩)
      | (go_at_call 41; refine (KS.out _).mono ?_; rintro e w' ⟨rfl, rfl⟩))
    go_ret2
    exact ⟨rfl, 0, rfl⟩
  · rw [getV_none n V C hk]
    have KL := Lib.hid (fun W => rloc_no (k) W (by exact hk.1))
    have KC := Lib.hid (fun W => rcom_no (k) W (by exact hk.2.1))
    have KS := Lib.hid (fun W => rsys_no (k) W (by exact hk.2.2))
    clear hk
    go_enter Tryd.func31, Tryd.ntmps31
    go_wp2_with (first
      | (go_at_call 39; refine (KL.out _).mono ?_; rintro e w' ⟨rfl, rfl⟩)
      | (go_at_call 40; refine (KC.out _).mono ?_; rintro e w' ⟨rfl, rfl⟩)
      | (go_at_call 41; refine (KS.out _).mono ?_; rintro e w' ⟨rfl, rfl⟩))
    go_ret2
    exact ⟨rfl, 0, rfl⟩

set_option maxRecDepth 100000 in
set_option maxHeartbeats 1000000 in
theorem rset_any {base s g cap n : Nat} {V : List Int} {C : Nat → Int} (k v : Int) (w : World) (h : RAt w base s g cap n V C) :
    Calls Tryd.prog 33 #[.pointer (some ⟨s, 0, none⟩), .int .i64 k, .int .i64 v] w fun e w' => e = .returned (.int .i64 (setE k v)) ∧ RAt w' base s g cap n (setVs n V k v) (setC C k v) ∧ Only s g w w' := by
  rcases kinds k with ⟨i, hi, rfl⟩ | ⟨i, hi, rfl⟩ | ⟨i, hi, rfl⟩ | hk
  · skip
    have c := rlocal_cell h hi
    have c0 := (h.1.cell 0).trans (stC_zero _ _)
    have hn : n ≤ 9 := h.2.2.2.2.2
    have hn1 : 1 ≤ n := h.2.2.2.2.1
    have hw : IntKind.i64.wrap ((n : Int) - 1) = (n : Int) - 1 := by rw [IntKind.wrap_i64]; omega
    have i0 : (0 : Int) ≤ (n : Int) - 1 := by omega
    have i1 : (n : Int) - 1 < (n : Int) := by omega
    have i2 : ((n : Int) - 1).toNat = n - 1 := by omega
    have i3 : (0 : Int) ≤ (i : Int) := by omega
    have i4 : (i : Int) < 33 := by omega
    have i5 : (i : Int) + 1 - 1 = (i : Int) := by omega
    have wi : IntKind.i64.wrap (i : Int) = (i : Int) := by rw [IntKind.wrap_i64]; omega
    have hf := h.2.1.frozenAt ((n - 1) * 33 + i)
    have KL := Lib.hid (fun W => rloc_yes ((i : Int) + 1) W (by omega) (by omega))
    have KC := Lib.hid (fun W => rcom_no ((i : Int) + 1) W (by omega))
    have KS := Lib.hid (fun W => rsys_no ((i : Int) + 1) W (by omega))
    by_cases hv : okV v
    · have KV := Lib.hid (fun W => rvalid_yes hv W)
      have e1 : setE ((i : Int) + 1) v = 0 := by unfold setE; rw [if_neg (by omega), if_pos (by omega), if_pos hv]
      have e2 : setVs n V ((i : Int) + 1) v = V.set ((n - 1) * 33 + i) v := by unfold setVs; rw [if_pos ⟨by omega, hv⟩, show ((i : Int) + 1 - 1).toNat = i by omega]
      have e3 : setC C ((i : Int) + 1) v = C := by exact if_neg (by omega)
      rw [e1, e2, e3]
      clear hv e1 e2 e3
      go_enter Tryd.func33, Tryd.ntmps33
      go_wp2_with (first
      | (go_at_call 39; refine (KL.out _).mono ?_; rintro e w' ⟨rfl, rfl⟩)
      | (go_at_call 40; refine (KC.out _).mono ?_; rintro e w' ⟨rfl, rfl⟩)
      | (go_at_call 41; refine (KS.out _).mono ?_; rintro e w' ⟨rfl, rfl⟩)
      | (go_at_call 42; refine (KV.out _).mono ?_; rintro e w' ⟨rfl, rfl⟩))
      refine wp_region_held_drew (S := fun w' => w'.cell? ⟨s, 0, none⟩ = some (.slice (some ⟨g, 0, none⟩) n cap)) (by kernel_rfl) c0 fun hS0 => ?_
      refine take_first 0 (v := .pointer (some ⟨s, 0, none⟩)) rfl (by kernel_rfl) (by kernel_rfl) (by kernel_rfl) (fun _ _ _ h => h) rfl (fun W' hW' => by go_simp) hS0 ?_
      refine take_first 1 (v := .pointer (some ⟨s, 0, none⟩)) rfl (by kernel_rfl) (by kernel_rfl) (by kernel_rfl) (fun _ _ _ h => h) rfl (fun W' hW' => by go_simp) hS0 ?_
      refine take_first 2 (v := .pointer (some ⟨s, 0, none⟩)) rfl (by kernel_rfl) (by kernel_rfl) (by kernel_rfl) (fun _ _ _ h => h) rfl (fun W' hW' => by go_simp) hS0 ?_
      refine take_first 3 (v := .slice (some ⟨g, 0, none⟩) n cap) rfl (by kernel_rfl) (by kernel_rfl) (by kernel_rfl) (fun _ _ _ h => h) rfl (fun W' hW' => by have e0 := hW'; go_simp) hS0 ?_
      refine take_first 4 (v := .pointer (some ⟨s, 0, none⟩)) rfl (by kernel_rfl) (by kernel_rfl) (by kernel_rfl) (fun _ _ _ h => h) rfl (fun W' hW' => by go_simp) hS0 ?_
      refine take_first 5 (v := .pointer (some ⟨s, 0, none⟩)) rfl (by kernel_rfl) (by kernel_rfl) (by kernel_rfl) (fun _ _ _ h => h) rfl (fun W' hW' => by go_simp) hS0 ?_
      refine take_first 6 (v := .pointer (some ⟨s, 0, none⟩)) rfl (by kernel_rfl) (by kernel_rfl) (by kernel_rfl) (fun _ _ _ h => h) rfl (fun W' hW' => by go_simp) hS0 ?_
      refine take_first 7 (v := .slice (some ⟨g, 0, none⟩) n cap) rfl (by kernel_rfl) (by kernel_rfl) (by kernel_rfl) (fun _ _ _ h => h) rfl (fun W' hW' => by have e0 := hW'; go_simp) hS0 ?_
      refine take_first 8 (v := .int .i64 n) rfl (by kernel_rfl) (by kernel_rfl) (by kernel_rfl) (fun _ _ _ h => h) rfl (fun W' hW' => by go_simp) hS0 ?_
      refine take_first 9 (v := .int .i64 ((n : Int) - 1)) rfl (by kernel_rfl) (by kernel_rfl) (by kernel_rfl) (fun _ _ _ h => h) rfl (fun W' hW' => by go_simp) hS0 ?_
      refine take_first 10 (v := .int .i64 ((i : Int) + 1)) rfl (by kernel_rfl) (by kernel_rfl) (by kernel_rfl) (fun _ _ _ h => h) rfl (fun W' hW' => by go_simp) hS0 ?_
      refine take_first 11 (v := .int .i64 i) rfl (by kernel_rfl) (by kernel_rfl) (by kernel_rfl) (fun _ _ _ h => h) rfl (fun W' hW' => by go_simp) hS0 ?_
      refine take_first 12 (v := .int .i64 v) rfl (by kernel_rfl) (by kernel_rfl) (by kernel_rfl) (fun _ _ _ h => h) rfl (fun W' hW' => by go_simp) hS0 ?_
      refine take_first 13 (v := .pointer (some ⟨g, (n - 1) * 33, none⟩)) rfl (by kernel_rfl) (by kernel_rfl) (by kernel_rfl) (fun _ _ _ h => h) rfl (fun W' hW' => by go_simp; try (intro hx; exfalso; omega)) hS0 ?_
      refine take_first 14 (v := .pointer (some ⟨g, (n - 1) * 33, none⟩)) rfl (by kernel_rfl) (by kernel_rfl) (by kernel_rfl) (fun _ _ _ h => h) rfl (fun W' hW' => by go_simp) hS0 ?_
      refine take_first 15 (v := .pointer (some ⟨g, (n - 1) * 33 + i, none⟩)) rfl (by kernel_rfl) (by kernel_rfl) (by kernel_rfl) (fun _ _ _ h => h) rfl (fun W' hW' => by go_simp) hS0 ?_
      refine one_next 16 (by kernel_rfl) rfl rfl fun K1 hK1 => ?_
      have HK1 := Lib.hid hK1
      clear hK1
      go_simp
      refine HK1.out _ _ ((World.cell?_setCell_far w.drew ⟨g, (n - 1) * 33 + i, none⟩ ⟨s, 0, none⟩ (.int .i64 v) (fun e => h.2.2.1 e.symm)).trans c0) ?_
      refine wpAnyH_done (by kernel_rfl) ?_ _
      go_simp
      go_wp2_with fail
      go_ret
      exact ⟨rfl, (rput_local h _ v).drewN 1, (Only.put2 w _).drewN 1⟩
    · have KV := Lib.hid (fun W => rvalid_no hv W)
      have e1 : setE ((i : Int) + 1) v = 3 := by unfold setE; rw [if_neg (by omega), if_pos (by omega), if_neg hv]
      have e2 : setVs n V ((i : Int) + 1) v = V := if_neg (fun x => hv x.2)
      have e3 : setC C ((i : Int) + 1) v = C := if_neg (fun x => hv x.2)
      rw [e1, e2, e3]
      clear hv e1 e2 e3
      go_enter Tryd.func33, Tryd.ntmps33
      go_wp2_with (first
      | (go_at_call 39; refine (KL.out _).mono ?_; rintro e w' ⟨rfl, rfl⟩)
      | (go_at_call 40; refine (KC.out _).mono ?_; rintro e w' ⟨rfl, rfl⟩)
      | (go_at_call 41; refine (KS.out _).mono ?_; rintro e w' ⟨rfl, rfl⟩)
      | (go_at_call 42; refine (KV.out _).mono ?_; rintro e w' ⟨rfl, rfl⟩))
      go_ret
      exact ⟨rfl, h, Only.refl _ _ _⟩
  · skip
    have c := (h.1.cell (i + 1)).trans (stC_at _ _ (by omega : i < 1100))
    have hf := h.1.frozen (i + 1)
    have hp := rput_var h (show i < 1100 by omega) v
    rw [Nat.add_comm i 1] at c hf hp
    have i3 : (0 : Int) ≤ (i : Int) := by omega
    have i4 : (i : Int) < 100 := by omega
    have i5 : (i : Int) + 100 - 100 = (i : Int) := by omega
    have KL := Lib.hid (fun W => rloc_no ((i : Int) + 100) W (by omega))
    have KC := Lib.hid (fun W => rcom_yes ((i : Int) + 100) W (by omega) (by omega))
    have KS := Lib.hid (fun W => rsys_no ((i : Int) + 100) W (by omega))
    by_cases hv : okV v
    · have KV := Lib.hid (fun W => rvalid_yes hv W)
      have e1 : setE ((i : Int) + 100) v = 0 := by unfold setE; rw [if_neg (by omega), if_pos (by omega), if_pos hv]
      have e2 : setVs n V ((i : Int) + 100) v = V := by exact if_neg (by omega)
      have e3 : setC C ((i : Int) + 100) v = updC C i v := by unfold setC; rw [if_pos ⟨by omega, hv⟩, show ((i : Int) + 100 - 100).toNat = i by omega]
      rw [e1, e2, e3]
      clear hv e1 e2 e3
      go_enter Tryd.func33, Tryd.ntmps33
      go_wp2_with (first
      | (go_at_call 39; refine (KL.out _).mono ?_; rintro e w' ⟨rfl, rfl⟩)
      | (go_at_call 40; refine (KC.out _).mono ?_; rintro e w' ⟨rfl, rfl⟩)
      | (go_at_call 41; refine (KS.out _).mono ?_; rintro e w' ⟨rfl, rfl⟩)
      | (go_at_call 42; refine (KV.out _).mono ?_; rintro e w' ⟨rfl, rfl⟩))
      go_ret
      exact ⟨rfl, hp, Only.put1 _ _⟩
    · have KV := Lib.hid (fun W => rvalid_no hv W)
      have e1 : setE ((i : Int) + 100) v = 3 := by unfold setE; rw [if_neg (by omega), if_pos (by omega), if_neg hv]
      have e2 : setVs n V ((i : Int) + 100) v = V := if_neg (fun x => hv x.2)
      have e3 : setC C ((i : Int) + 100) v = C := if_neg (fun x => hv x.2)
      rw [e1, e2, e3]
      clear hv e1 e2 e3
      go_enter Tryd.func33, Tryd.ntmps33
      go_wp2_with (first
      | (go_at_call 39; refine (KL.out _).mono ?_; rintro e w' ⟨rfl, rfl⟩)
      | (go_at_call 40; refine (KC.out _).mono ?_; rintro e w' ⟨rfl, rfl⟩)
      | (go_at_call 41; refine (KS.out _).mono ?_; rintro e w' ⟨rfl, rfl⟩)
      | (go_at_call 42; refine (KV.out _).mono ?_; rintro e w' ⟨rfl, rfl⟩))
      go_ret
      exact ⟨rfl, h, Only.refl _ _ _⟩
  · have e1 : setE ((i : Int) + 5000) v = 13 := by unfold setE; rw [if_pos (by omega)]
    have e2 : setVs n V ((i : Int) + 5000) v = V := if_neg (by omega)
    have e3 : setC C ((i : Int) + 5000) v = C := if_neg (by omega)
    rw [e1, e2, e3]
    have KL := Lib.hid (fun W => rloc_no ((i : Int) + 5000) W (by omega))
    have KC := Lib.hid (fun W => rcom_no ((i : Int) + 5000) W (by omega))
    have KS := Lib.hid (fun W => rsys_yes ((i : Int) + 5000) W (by omega) (by omega))
    clear e1 e2 e3
    go_enter Tryd.func33, Tryd.ntmps33
    go_wp2_with (first
      | (go_at_call 39; refine (KL.out _).mono ?_; rintro e w' ⟨rfl, rfl⟩)
      | (go_at_call 40; refine (KC.out _).mono ?_; rintro e w' ⟨rfl, rfl⟩)
      | (go_at_call 41; refine (KS.out _).mono ?_; rintro e w' ⟨rfl, rfl⟩))
    go_ret
    exact ⟨rfl, h, Only.refl _ _ _⟩
  · have e1 : setE k v = 6 := by unfold setE; rw [if_neg hk.2.2, if_neg (fun x => x.elim hk.1 hk.2.1)]
    have e2 : setVs n V k v = V := if_neg (fun x => hk.1 x.1)
    have e3 : setC C k v = C := if_neg (fun x => hk.2.1 x.1)
    rw [e1, e2, e3]
    have KL := Lib.hid (fun W => rloc_no (k) W (by exact hk.1))
    have KC := Lib.hid (fun W => rcom_no (k) W (by exact hk.2.1))
    have KS := Lib.hid (fun W => rsys_no (k) W (by exact hk.2.2))
    clear hk e1 e2 e3
    go_enter Tryd.func33, Tryd.ntmps33
    go_wp2_with (first
      | (go_at_call 39; refine (KL.out _).mono ?_; rintro e w' ⟨rfl, rfl⟩)
      | (go_at_call 40; refine (KC.out _).mono ?_; rintro e w' ⟨rfl, rfl⟩)
      | (go_at_call 41; refine (KS.out _).mono ?_; rintro e w' ⟨rfl, rfl⟩))
    go_ret
    exact ⟨rfl, h, Only.refl _ _ _⟩

set_option maxRecDepth 100000 in
theorem rhost_any {base s g cap n : Nat} {V : List Int} {C : Nat → Int} (k v : Int) (w : World) (h : RAt w base s g cap n V C) :
    Calls Tryd.prog 34 #[.pointer (some ⟨s, 0, none⟩), .int .i64 k, .int .i64 v] w fun e w' => e = .returned (.int .i64 (hostE k v)) ∧ RAt w' base s g cap n V (hostC C k v) ∧ Only s g w w' := by
  by_cases hk : 5000 ≤ k ∧ k ≤ 5999
  · obtain ⟨i, hi, rfl⟩ : ∃ i : Nat, i < 1000 ∧ k = (i : Int) + 5000 := ⟨(k - 5000).toNat, by omega, by omega⟩
    clear hk
    have c := (h.1.cell (100 + i + 1)).trans (stC_at _ _ (by omega : 100 + i < 1100))
    have hf := h.1.frozen (100 + i + 1)
    have hp := rput_var h (show 100 + i < 1100 by omega) v
    rw [show 100 + i + 1 = 101 + i by omega] at c hf hp
    have i3 : (0 : Int) ≤ (i : Int) := by omega
    have i4 : (i : Int) < 1000 := by omega
    have i5 : (i : Int) + 5000 - 5000 = (i : Int) := by omega
    have KS := Lib.hid (fun W => rsys_yes ((i : Int) + 5000) W (by omega) (by omega))
    by_cases hv : okV v
    · have KV := Lib.hid (fun W => rvalid_yes hv W)
      have e1 : hostE ((i : Int) + 5000) v = 0 := by unfold hostE; rw [if_pos (by omega), if_pos hv]
      have e3 : hostC C ((i : Int) + 5000) v = updC C (100 + i) v := by unfold hostC; rw [if_pos ⟨by omega, hv⟩, show ((i : Int) + 5000 - 5000).toNat = i by omega]
      rw [e1, e3]
      clear hv e1 e3
      go_enter Tryd.func34, Tryd.ntmps34
      go_wp2_with (first
        | (go_at_call 41; refine (KS.out _).mono ?_; rintro e w' ⟨rfl, rfl⟩)
        | (go_at_call 42; refine (KV.out _).mono ?_; rintro e w' ⟨rfl, rfl⟩))
      go_ret
      exact ⟨rfl, hp, Only.put1 _ _⟩
    · have KV := Lib.hid (fun W => rvalid_no hv W)
      have e1 : hostE ((i : Int) + 5000) v = 3 := by unfold hostE; rw [if_pos (by omega), if_neg hv]
      have e3 : hostC C ((i : Int) + 5000) v = C := if_neg (fun x => hv x.2)
      rw [e1, e3]
      clear hv e1 e3
      go_enter Tryd.func34, Tryd.ntmps34
      go_wp2_with (first
        | (go_at_call 41; refine (KS.out _).mono ?_; rintro e w' ⟨rfl, rfl⟩)
        | (go_at_call 42; refine (KV.out _).mono ?_; rintro e w' ⟨rfl, rfl⟩))
      go_ret
      exact ⟨rfl, h, Only.refl _ _ _⟩
  · have e1 : hostE k v = 6 := if_neg hk
    have e3 : hostC C k v = C := if_neg (fun x => hk x.1)
    rw [e1, e3]
    have KS := Lib.hid (fun W => rsys_no k W hk)
    clear e1 e3 hk
    go_enter Tryd.func34, Tryd.ntmps34
    go_wp2_with (first
      | (go_at_call 41; refine (KS.out _).mono ?_; rintro e w' ⟨rfl, rfl⟩))
    go_ret
    exact ⟨rfl, h, Only.refl _ _ _⟩
end Go.Proofs.YtdbhkpkndfhcoaaDoor
