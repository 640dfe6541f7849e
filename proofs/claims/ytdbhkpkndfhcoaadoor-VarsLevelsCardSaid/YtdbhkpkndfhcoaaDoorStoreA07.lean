/-
  vars.Store: Get, Set and Host. Stores of 1 to 9 levels; any number, any value.
-/
import Derived.Test.YtdbhkpkndfhcoaaDoorStore07
namespace Go.Proofs.YtdbhkpkndfhcoaaDoor
open Go Go.RowKit
set_option linter.unusedVariables false

/-- Only the blocks s and g have turned. -/
structure Only (s g : Nat) (w w' : World) : Prop where
  os : w'.os = w.os
  tape : w'.tape = w.tape
  output : w'.output = w.output
  size : w.heap.size ≤ w'.heap.size
  block : ∀ b, b < w.heap.size → b ≠ s → b ≠ g → w'.heap[b]? = w.heap[b]?
theorem Only.drewN {s g : Nat} {w w' : World} (h : Only s g w w') (n : Nat) : Only s g w (w'.drewN n) := ⟨h.os, h.tape, h.output, h.size, h.block⟩
theorem Only.refl (s g : Nat) (w : World) : Only s g w w := ⟨rfl, rfl, rfl, Nat.le_refl _, fun _ _ _ _ => rfl⟩
theorem Only.below {s g B : Nat} {w w' : World} (h : Only s g w w') (h1 : B ≤ s) (h2 : B ≤ g) (hB : B ≤ w.heap.size) : Below B w w' :=
  ⟨h.os, h.tape, h.output, h.size, fun i hi => h.block i (by omega) (by omega) (by omega)⟩
theorem Only.put1 {s g i : Nat} (w : World) (v : Value) : Only s g w (w.setCell ⟨s, i, none⟩ v) :=
  ⟨rfl, rfl, rfl, by simp [World.setCell], fun b hb h1 _ => Below.heap_setCell _ _ _ b (fun e => h1 e)⟩
theorem Only.put2 {s g i : Nat} (w : World) (v : Value) : Only s g w (w.setCell ⟨g, i, none⟩ v) :=
  ⟨rfl, rfl, rfl, by simp [World.setCell], fun b hb _ h1 => Below.heap_setCell _ _ _ b (fun e => h1 e)⟩
theorem StAt.drewN {W : World} {base s g cap n : Nat} {V : List Int} {C : Nat → Int} (h : StAt W base s g cap n V C) (m : Nat) : StAt (W.drewN m) base s g cap n V C := h
theorem StAt.len {W : World} {base s g cap n : Nat} {V : List Int} {C : Nat → Int} (h : StAt W base s g cap n V C) : V.length = n * 33 := by have := h.2.1.1; simpa using this
theorem StAt.baseg {W : World} {base s g cap n : Nat} {V : List Int} {C : Nat → Int} (h : StAt W base s g cap n V C) : base ≤ g ∧ g < W.heap.size := h.2.1.lt g rfl

theorem kinds (k : Int) : (∃ i : Nat, i < 33 ∧ k = (i : Int) + 1) ∨ (∃ i : Nat, i < 100 ∧ k = (i : Int) + 100) ∨ (∃ i : Nat, i < 1000 ∧ k = (i : Int) + 5000) ∨ noVar k := by
  by_cases h1 : 1 ≤ k ∧ k ≤ 33
  · exact .inl ⟨(k - 1).toNat, by omega, by omega⟩
  · by_cases h2 : 100 ≤ k ∧ k ≤ 199
    · exact .inr (.inl ⟨(k - 100).toNat, by omega, by omega⟩)
    · by_cases h3 : 5000 ≤ k ∧ k ≤ 5999
      · exact .inr (.inr (.inl ⟨(k - 5000).toNat, by omega, by omega⟩))
      · exact .inr (.inr (.inr ⟨h1, h2, h3⟩))
/-- What Get returns. -/
def getV (n : Nat) (V : List Int) (C : Nat → Int) (k : Int) : Int × Int :=
  if 1 ≤ k ∧ k ≤ 33 then (V.getD ((n - 1) * 33 + (k - 1).toNat) 0, 0) else if 100 ≤ k ∧ k ≤ 199 then (C (k - 100).toNat, 0) else if 5000 ≤ k ∧ k ≤ 5999 then (C (100 + (k - 5000).toNat), 0) else (0, 6)
theorem getV_local (n : Nat) (V : List Int) (C : Nat → Int) {i : Nat} (h : i < 33) : getV n V C ((i : Int) + 1) = (V.getD ((n - 1) * 33 + i) 0, 0) := by
  unfold getV; rw [if_pos (by omega), show ((i : Int) + 1 - 1).toNat = i by omega]
theorem getV_common (n : Nat) (V : List Int) (C : Nat → Int) {i : Nat} (h : i < 100) : getV n V C ((i : Int) + 100) = (C i, 0) := by
  unfold getV; rw [if_neg (by omega), if_pos (by omega), show ((i : Int) + 100 - 100).toNat = i by omega]
theorem getV_system (n : Nat) (V : List Int) (C : Nat → Int) {i : Nat} (h : i < 1000) : getV n V C ((i : Int) + 5000) = (C (100 + i), 0) := by
  unfold getV; rw [if_neg (by omega), if_neg (by omega), if_pos (by omega), show ((i : Int) + 5000 - 5000).toNat = i by omega]
theorem getV_none (n : Nat) (V : List Int) (C : Nat → Int) {k : Int} (h : noVar k) : getV n V C k = (0, 6) := by
  unfold getV; rw [if_neg h.1, if_neg h.2.1, if_neg h.2.2]
theorem local_at {W : World} {base s g cap n : Nat} {V : List Int} {C : Nat → Int} (h : StAt W base s g cap n V C) {i : Nat} (hi : i < 33) : (n - 1) * 33 + i < n * 33 := by have := h.2.2.2.2.1; omega
theorem local_cell {W : World} {base s g cap n : Nat} {V : List Int} {C : Nat → Int} (h : StAt W base s g cap n V C) {i : Nat} (hi : i < 33) : W.cell? ⟨g, (n - 1) * 33 + i, none⟩ = some (.int .i64 (V.getD ((n - 1) * 33 + i) 0)) := by
  have hl := local_at h hi
  rw [h.2.1.cellAt _ hl, List.getElem?_map]
  have := h.len
  simp [List.getD, List.getElem?_eq_getElem (show (n - 1) * 33 + i < V.length by omega)]

theorem get_any {base s g cap n : Nat} {V : List Int} {C : Nat → Int} (k : Int) (w : World) (h : StAt w base s g cap n V C) :
    Calls Tryd.prog 14 #[.pointer (some ⟨s, 0, none⟩), .int .i64 k] w fun e w' => e = .returned (.tuple #[.int .i64 (getV n V C k).1, .int .i64 (getV n V C k).2]) ∧ ∃ m, w' = w.drewN m := by
  rcases kinds k with ⟨i, hi, rfl⟩ | ⟨i, hi, rfl⟩ | ⟨i, hi, rfl⟩ | hk
  · rw [getV_local n V C hi]
    have c := local_cell h hi
    have K := Lib.hid (cell_local i hi w h)
    go_enter Tryd.func14, Tryd.ntmps14
    go_wp2_with fail
    refine K.out.mono ?_
    rintro e w' ⟨rfl, m, rfl⟩
    go_wp2_with fail
    go_ret2
    exact ⟨rfl, _, rfl⟩
  · rw [getV_common n V C hi]
    have c := (h.1.cell (i + 1)).trans (stC_at _ _ (by omega : i < 1100))
    rw [Nat.add_comm i 1] at c
    have K := Lib.hid (cell_common i hi w h)
    go_enter Tryd.func14, Tryd.ntmps14
    go_wp2_with fail
    refine K.out.mono ?_
    rintro e w' ⟨rfl, rfl⟩
    go_wp2_with fail
    go_ret2
    exact ⟨rfl, 0, rfl⟩
  · rw [getV_system n V C hi]
    have c := (h.1.cell (100 + i + 1)).trans (stC_at _ _ (by omega : 100 + i < 1100))
    rw [show 100 + i + 1 = 101 + i by omega] at c
    have K := Lib.hid (cell_system i hi w h)
    go_enter Tryd.func14, Tryd.ntmps14
    go_wp2_with fail
    refine K.out.mono ?_
    rintro e w' ⟨rfl, rfl⟩
    go_wp2_with fail
    go_ret2
    exact ⟨rfl, 0, rfl⟩
  · rw [getV_none n V C hk]
    have K := Lib.hid (cell_none k hk w h)
    clear hk
    go_enter Tryd.func14, Tryd.ntmps14
    go_wp2_with fail
    refine K.out.mono ?_
    rintro e w' ⟨rfl, rfl⟩
    go_wp2_with fail
    go_ret2
    exact ⟨rfl, 0, rfl⟩

/-! ### Set and Host -/
def okV (v : Int) : Prop := -1000000000000000 ≤ v ∧ v ≤ 1000000000000000
instance (v : Int) : Decidable (okV v) := inferInstanceAs (Decidable (_ ∧ _))
theorem put_local {W : World} {base s g cap n : Nat} {V : List Int} {C : Nat → Int} (h : StAt W base s g cap n V C) (j : Nat) (v : Int) : StAt (W.setCell ⟨g, j, none⟩ (.int .i64 v)) base s g cap n (V.set j v) C := by
  have := (h.2.1.stored j (.int .i64 v)).1
  rw [← List.map_set] at this
  exact ⟨h.1.far (p := ⟨g, j, none⟩) h.2.2.1 _, this, h.2.2⟩
theorem put_var {W : World} {base s g cap n : Nat} {V : List Int} {C : Nat → Int} (h : StAt W base s g cap n V C) {i : Nat} (hi : i < 1100) (v : Int) : StAt (W.setCell ⟨s, i + 1, none⟩ (.int .i64 v)) base s g cap n V (updC C i v) := by
  refine ⟨?_, h.2.1.kept (grown_setCell (p := ⟨s, i + 1, none⟩) (grown_refl W (some s)) (.inl rfl) _) (.inr fun e => h.2.2.1 (by have e' : some g = some s := e; exact (Option.some.inj e').symm)), h.2.2⟩
  have := h.1.put (i + 1) (.int .i64 v)
  rwa [stC_set _ _ hi] at this
theorem valid_yes {v : Int} (h : okV v) (w : World) : Calls Tryd.prog 29 #[.int .i64 v] w fun e w' => e = .returned (.bool true) ∧ w = w' := by
  have := valid_any v w
  rwa [decide_eq_true (show -1000000000000000 ≤ v ∧ v ≤ 1000000000000000 from h)] at this
theorem valid_no {v : Int} (h : ¬ okV v) (w : World) : Calls Tryd.prog 29 #[.int .i64 v] w fun e w' => e = .returned (.bool false) ∧ w = w' := by
  have := valid_any v w
  rwa [decide_eq_false (show ¬ (-1000000000000000 ≤ v ∧ v ≤ 1000000000000000) from h)] at this
def setE (k v : Int) : Int := if 5000 ≤ k ∧ k ≤ 5999 then 13 else if (1 ≤ k ∧ k ≤ 33) ∨ (100 ≤ k ∧ k ≤ 199) then (if okV v then 0 else 3) else 6
def setVs (n : Nat) (V : List Int) (k v : Int) : List Int := if (1 ≤ k ∧ k ≤ 33) ∧ okV v then V.set ((n - 1) * 33 + (k - 1).toNat) v else V
def setC (C : Nat → Int) (k v : Int) : Nat → Int := if (100 ≤ k ∧ k ≤ 199) ∧ okV v then updC C (k - 100).toNat v else C
def hostE (k v : Int) : Int := if 5000 ≤ k ∧ k ≤ 5999 then (if okV v then 0 else 3) else 6
def hostC (C : Nat → Int) (k v : Int) : Nat → Int := if (5000 ≤ k ∧ k ≤ 5999) ∧ okV v then updC C (100 + (k - 5000).toNat) v else C

set_option maxRecDepth 100000 in
theorem set_any {base s g cap n : Nat} {V : List Int} {C : Nat → Int} (k v : Int) (w : World) (h : StAt w base s g cap n V C) :
    Calls Tryd.prog 16 #[.pointer (some ⟨s, 0, none⟩), .int .i64 k, .int .i64 v] w fun e w' => e = .returned (.int .i64 (setE k v)) ∧ StAt w' base s g cap n (setVs n V k v) (setC C k v) ∧ Only s g w w' := by
  rcases kinds k with ⟨i, hi, rfl⟩ | ⟨i, hi, rfl⟩ | ⟨i, hi, rfl⟩ | hk
  · have c := local_cell h hi
    have hf := h.2.1.frozenAt ((n - 1) * 33 + i)
    have K := Lib.hid (cell_local i hi w h)
    by_cases hv : okV v
    · have KV := Lib.hid (fun W => valid_yes hv W)
      have e1 : setE ((i : Int) + 1) v = 0 := by unfold setE; rw [if_neg (by omega), if_pos (by omega), if_pos hv]
      have e2 : setVs n V ((i : Int) + 1) v = V.set ((n - 1) * 33 + i) v := by unfold setVs; rw [if_pos ⟨by omega, hv⟩, show ((i : Int) + 1 - 1).toNat = i by omega]
      have e3 : setC C ((i : Int) + 1) v = C := if_neg (by omega)
      rw [e1, e2, e3]
      clear hv e1 e2 e3
      go_enter Tryd.func16, Tryd.ntmps16
      go_wp2_with fail
      refine K.out.mono ?_
      rintro e w' ⟨rfl, m, rfl⟩
      go_wp2_with fail
      refine (KV.out _).mono ?_
      rintro e w' ⟨rfl, rfl⟩
      go_wp2_with fail
      go_ret
      exact ⟨rfl, (put_local h _ v).drewN m, (Only.put2 w _).drewN m⟩
    · have KV := Lib.hid (fun W => valid_no hv W)
      have e1 : setE ((i : Int) + 1) v = 3 := by unfold setE; rw [if_neg (by omega), if_pos (by omega), if_neg hv]
      have e2 : setVs n V ((i : Int) + 1) v = V := if_neg (fun x => hv x.2)
      have e3 : setC C ((i : Int) + 1) v = C := if_neg (fun x => hv x.2)
      rw [e1, e2, e3]
      clear hv e1 e2 e3
      go_enter Tryd.func16, Tryd.ntmps16
      go_wp2_with fail
      refine K.out.mono ?_
      rintro e w' ⟨rfl, m, rfl⟩
      go_wp2_with fail
      refine (KV.out _).mono ?_
      rintro e w' ⟨rfl, rfl⟩
      go_wp2_with fail
      go_ret
      exact ⟨rfl, h.drewN m, (Only.refl s g w).drewN m⟩
  · have c := (h.1.cell (i + 1)).trans (stC_at _ _ (by omega : i < 1100))
    have hf := h.1.frozen (i + 1)
    have hp := put_var h (show i < 1100 by omega) v
    rw [Nat.add_comm i 1] at c hf hp
    have K := Lib.hid (cell_common i hi w h)
    by_cases hv : okV v
    · have KV := Lib.hid (fun W => valid_yes hv W)
      have e1 : setE ((i : Int) + 100) v = 0 := by unfold setE; rw [if_neg (by omega), if_pos (by omega), if_pos hv]
      have e2 : setVs n V ((i : Int) + 100) v = V := if_neg (by omega)
      have e3 : setC C ((i : Int) + 100) v = updC C i v := by unfold setC; rw [if_pos ⟨by omega, hv⟩, show ((i : Int) + 100 - 100).toNat = i by omega]
      rw [e1, e2, e3]
      clear hv e1 e2 e3
      go_enter Tryd.func16, Tryd.ntmps16
      go_wp2_with fail
      refine K.out.mono ?_
      rintro e w' ⟨rfl, rfl⟩
      go_wp2_with fail
      refine (KV.out _).mono ?_
      rintro e w' ⟨rfl, rfl⟩
      go_wp2_with fail
      go_ret
      exact ⟨rfl, hp, Only.put1 _ _⟩
    · have KV := Lib.hid (fun W => valid_no hv W)
      have e1 : setE ((i : Int) + 100) v = 3 := by unfold setE; rw [if_neg (by omega), if_pos (by omega), if_neg hv]
      have e2 : setVs n V ((i : Int) + 100) v = V := if_neg (fun x => hv x.2)
      have e3 : setC C ((i : Int) + 100) v = C := if_neg (fun x => hv x.2)
      rw [e1, e2, e3]
      clear hv e1 e2 e3
      go_enter Tryd.func16, Tryd.ntmps16
      go_wp2_with fail
      refine K.out.mono ?_
      rintro e w' ⟨rfl, rfl⟩
      go_wp2_with fail
      refine (KV.out _).mono ?_
      rintro e w' ⟨rfl, rfl⟩
      go_wp2_with fail
      go_ret
      exact ⟨rfl, h, Only.refl _ _ _⟩
  · have e1 : setE ((i : Int) + 5000) v = 13 := by unfold setE; rw [if_pos (by omega)]
    have e2 : setVs n V ((i : Int) + 5000) v = V := if_neg (by omega)
    have e3 : setC C ((i : Int) + 5000) v = C := if_neg (by omega)
    rw [e1, e2, e3]
    have K := Lib.hid (cell_system i hi w h)
    clear e1 e2 e3
    go_enter Tryd.func16, Tryd.ntmps16
    go_wp2_with fail
    refine K.out.mono ?_
    rintro e w' ⟨rfl, rfl⟩
    go_wp2_with fail
    go_ret
    exact ⟨rfl, h, Only.refl _ _ _⟩
  · have e1 : setE k v = 6 := by unfold setE; rw [if_neg hk.2.2, if_neg (fun x => x.elim hk.1 hk.2.1)]
    have e2 : setVs n V k v = V := if_neg (fun x => hk.1 x.1)
    have e3 : setC C k v = C := if_neg (fun x => hk.2.1 x.1)
    rw [e1, e2, e3]
    have K := Lib.hid (cell_none k hk w h)
    clear hk e1 e2 e3
    go_enter Tryd.func16, Tryd.ntmps16
    go_wp2_with fail
    refine K.out.mono ?_
    rintro e w' ⟨rfl, rfl⟩
    go_wp2_with fail
    go_ret
    exact ⟨rfl, h, Only.refl _ _ _⟩

set_option maxRecDepth 100000 in
theorem host_any {base s g cap n : Nat} {V : List Int} {C : Nat → Int} (k v : Int) (w : World) (h : StAt w base s g cap n V C) :
    Calls Tryd.prog 30 #[.pointer (some ⟨s, 0, none⟩), .int .i64 k, .int .i64 v] w fun e w' => e = .returned (.int .i64 (hostE k v)) ∧ StAt w' base s g cap n V (hostC C k v) ∧ Only s g w w' := by
  rcases kinds k with ⟨i, hi, rfl⟩ | ⟨i, hi, rfl⟩ | ⟨i, hi, rfl⟩ | hk
  · have e1 : hostE ((i : Int) + 1) v = 6 := if_neg (by omega)
    have e3 : hostC C ((i : Int) + 1) v = C := if_neg (by omega)
    rw [e1, e3]
    have K := Lib.hid (cell_local i hi w h)
    clear e1 e3
    go_enter Tryd.func30, Tryd.ntmps30
    go_wp2_with fail
    refine K.out.mono ?_
    rintro e w' ⟨rfl, m, rfl⟩
    go_wp2_with fail
    go_ret
    exact ⟨rfl, h.drewN m, (Only.refl s g w).drewN m⟩
  · have e1 : hostE ((i : Int) + 100) v = 6 := if_neg (by omega)
    have e3 : hostC C ((i : Int) + 100) v = C := if_neg (by omega)
    rw [e1, e3]
    have K := Lib.hid (cell_common i hi w h)
    clear e1 e3
    go_enter Tryd.func30, Tryd.ntmps30
    go_wp2_with fail
    refine K.out.mono ?_
    rintro e w' ⟨rfl, rfl⟩
    go_wp2_with fail
    go_ret
    exact ⟨rfl, h, Only.refl _ _ _⟩
  · have c := (h.1.cell (100 + i + 1)).trans (stC_at _ _ (by omega : 100 + i < 1100))
    have hf := h.1.frozen (100 + i + 1)
    have hp := put_var h (show 100 + i < 1100 by omega) v
    rw [show 100 + i + 1 = 101 + i by omega] at c hf hp
    have K := Lib.hid (cell_system i hi w h)
    by_cases hv : okV v
    · have KV := Lib.hid (fun W => valid_yes hv W)
      have e1 : hostE ((i : Int) + 5000) v = 0 := by unfold hostE; rw [if_pos (by omega), if_pos hv]
      have e3 : hostC C ((i : Int) + 5000) v = updC C (100 + i) v := by unfold hostC; rw [if_pos ⟨by omega, hv⟩, show ((i : Int) + 5000 - 5000).toNat = i by omega]
      rw [e1, e3]
      clear hv e1 e3
      go_enter Tryd.func30, Tryd.ntmps30
      go_wp2_with fail
      refine K.out.mono ?_
      rintro e w' ⟨rfl, rfl⟩
      go_wp2_with fail
      refine (KV.out _).mono ?_
      rintro e w' ⟨rfl, rfl⟩
      go_wp2_with fail
      go_ret
      exact ⟨rfl, hp, Only.put1 _ _⟩
    · have KV := Lib.hid (fun W => valid_no hv W)
      have e1 : hostE ((i : Int) + 5000) v = 3 := by unfold hostE; rw [if_pos (by omega), if_neg hv]
      have e3 : hostC C ((i : Int) + 5000) v = C := if_neg (fun x => hv x.2)
      rw [e1, e3]
      clear hv e1 e3
      go_enter Tryd.func30, Tryd.ntmps30
      go_wp2_with fail
      refine K.out.mono ?_
      rintro e w' ⟨rfl, rfl⟩
      go_wp2_with fail
      refine (KV.out _).mono ?_
      rintro e w' ⟨rfl, rfl⟩
      go_wp2_with fail
      go_ret
      exact ⟨rfl, h, Only.refl _ _ _⟩
  · have e1 : hostE k v = 6 := if_neg hk.2.2
    have e3 : hostC C k v = C := if_neg (fun x => hk.2.2 x.1)
    rw [e1, e3]
    have K := Lib.hid (cell_none k hk w h)
    clear hk e1 e3
    go_enter Tryd.func30, Tryd.ntmps30
    go_wp2_with fail
    refine K.out.mono ?_
    rintro e w' ⟨rfl, rfl⟩
    go_wp2_with fail
    go_ret
    exact ⟨rfl, h, Only.refl _ _ _⟩
end Go.Proofs.YtdbhkpkndfhcoaaDoor
