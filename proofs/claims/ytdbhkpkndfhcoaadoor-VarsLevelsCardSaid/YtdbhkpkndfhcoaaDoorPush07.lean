/-
  vars.Store: Push. Stores of 1 to 9 levels; any arguments.
-/
import Derived.Test.YtdbhkpkndfhcoaaDoorStoreA07
import Derived.Test.YtdbhkpkndfhcoaaDoorHeldBy
import Derived.WalkSmall
import Derived.Deep.MidRow
namespace Go.Proofs.YtdbhkpkndfhcoaaDoor
open Go Go.RowKit
set_option linter.unusedVariables false

/-- The arguments: their letters and numbers, in memory. -/
def ArgsAt (W : World) (a : Option Addr) (A : List (Int × Int)) : Prop := ∀ i c v, A[i]? = some (c, v) → ∃ b o, a = some ⟨b, o, none⟩ ∧ b < W.heap.size ∧ W.cell? ⟨b, o + i * 2, none⟩ = some (.int .i64 c) ∧ W.cell? ⟨b, o + i * 2 + 1, none⟩ = some (.int .i64 v)
theorem ArgsAt.below {W W' : World} {a : Option Addr} {A : List (Int × Int)} (h : ArgsAt W a A) (hb : Below W.heap.size W W') : ArgsAt W' a A := fun i c v hc => by
  obtain ⟨b, o, e, hl, h1, h2⟩ := h i c v hc
  exact ⟨b, o, e, by have := hb.size; omega, (hb.cell (p := ⟨b, o + i * 2, none⟩) hl).trans h1, (hb.cell (p := ⟨b, o + i * 2 + 1, none⟩) hl).trans h2⟩
/-- A level's cells, the cells of the letters that were seen. -/
def lvC (l : Nat → Int) : Array Value := ((List.range 33).map fun i => Value.int .i64 (l i)).toArray
def seenC (S : Nat → Bool) : Array Value := ((List.range 26).map fun i => Value.bool (S i)).toArray
theorem lvC_size (l : Nat → Int) : (lvC l).size = 33 := by simp [lvC]
theorem seenC_size (S : Nat → Bool) : (seenC S).size = 26 := by simp [seenC]
theorem seenC_at (S : Nat → Bool) {i : Nat} (h : i < 26) : (seenC S)[i]? = some (.bool (S i)) := by simp [seenC, h]
theorem lvC_at (l : Nat → Int) {i : Nat} (h : i < 33) : (lvC l)[i]? = some (.int .i64 (l i)) := by simp [lvC, h]
def updB (S : Nat → Bool) (i : Nat) : Nat → Bool := fun k => if k = i then true else S k
theorem lvC_set (l : Nat → Int) {i : Nat} (h : i < 33) (v : Int) : (lvC l).setIfInBounds i (.int .i64 v) = lvC (updC l i v) := by
  apply Array.ext_getElem?
  intro j
  rw [Array.getElem?_setIfInBounds]
  by_cases hj : j < 33
  · rw [lvC_at _ hj, lvC_at _ hj, lvC_size]
    unfold updC
    by_cases e : i = j
    · subst e
      simp [h]
    · rw [if_neg e, if_neg (fun x => e x.symm)]
  · rw [if_neg (by omega), Array.getElem?_eq_none (by rw [lvC_size]; omega), Array.getElem?_eq_none (by rw [lvC_size]; omega)]
theorem seenC_set (S : Nat → Bool) {i : Nat} (h : i < 26) : (seenC S).setIfInBounds i (.bool true) = seenC (updB S i) := by
  apply Array.ext_getElem?
  intro j
  rw [Array.getElem?_setIfInBounds]
  by_cases hj : j < 26
  · rw [seenC_at _ hj, seenC_at _ hj, seenC_size]
    unfold updB
    by_cases e : i = j
    · subst e
      simp [h]
    · rw [if_neg e, if_neg (fun x => e x.symm)]
  · rw [if_neg (by omega), Array.getElem?_eq_none (by rw [seenC_size]; omega), Array.getElem?_eq_none (by rw [seenC_size]; omega)]
/-- What a scan of the arguments finds: an error, or the level. -/
def scanA : List (Int × Int) → (Nat → Bool) → (Nat → Int) → Int × (Nat → Int)
  | [], _, l => (0, l)
  | (c, v) :: A, S, l => if localN c = 0 then (1, l) else if S (c - 65).toNat = true then (7, l) else if okV v then scanA A (updB S (c - 65).toNat) (updC l (localN c - 1).toNat v) else (3, l)
theorem tabNums_bd : ∀ z ∈ tabNums, 0 ≤ z ∧ z ≤ 33 := by decide
theorem localN_bd (c : Int) : 0 ≤ localN c ∧ localN c ≤ 33 ∧ (localN c ≠ 0 → 65 ≤ c ∧ c ≤ 90) := by
  unfold localN
  split
  · rename_i h
    have hl : (c - 65).toNat < tabNums.length := by have : tabNums.length = 26 := rfl; omega
    have := tabNums_bd (tabNums.getD (c - 65).toNat 0) (by rw [List.getD, List.getElem?_eq_getElem hl]; exact List.getElem_mem hl)
    exact ⟨this.1, this.2, fun _ => h⟩
  · exact ⟨by omega, by omega, fun h => absurd rfl h⟩
theorem scan_drop {A : List (Int × Int)} {j : Nat} {c v : Int} (h : A[j]? = some (c, v)) (S : Nat → Bool) (l : Nat → Int) : scanA (A.drop j) S l = if localN c = 0 then (1, l) else if S (c - 65).toNat = true then (7, l) else if okV v then scanA (A.drop (j + 1)) (updB S (c - 65).toNat) (updC l (localN c - 1).toNat v) else (3, l) := by
  obtain ⟨hj, e⟩ := List.getElem?_eq_some_iff.1 h
  rw [List.drop_eq_getElem_cons hj, e]
  rfl
theorem level_zero : lvC (fun _ => 0) = (List.replicate 33 (Value.int .i64 0)).toArray := by kernel_rfl

/-- What Push leaves. -/
def PushPost (base s g cap n : Nat) (V : List Int) (C : Nat → Int) (A : List (Int × Int)) (w : World) (e : Ending) (w' : World) : Prop :=
  (n = 9 → e = .returned (.int .i64 10) ∧ StAt w' base s g cap n V C ∧ Only s g w w') ∧
  (n < 9 → e = .returned (.int .i64 (scanA A (fun _ => false) (fun _ => 0)).1) ∧ Only s g w w' ∧
    ((scanA A (fun _ => false) (fun _ => 0)).1 ≠ 0 → StAt w' base s g cap n V C) ∧
    ((scanA A (fun _ => false) (fun _ => 0)).1 = 0 → ∃ g' cap', (g' = g ∨ w.heap.size ≤ g') ∧ StAt w' base s g' cap' (n + 1) (V ++ (List.range 33).map (scanA A (fun _ => false) (fun _ => 0)).2) C))
theorem only_of_below {s g : Nat} {w w' : World} (h : Below w.heap.size w w') : Only s g w w' := ⟨h.os, h.tape, h.output, h.size, fun b hb _ _ => h.block b hb⟩
theorem push_err {base s g cap n : Nat} {V : List Int} {C : Nat → Int} {A : List (Int × Int)} {w w' : World} {l : Nat → Int} {r : Int} (hs : scanA A (fun _ => false) (fun _ => 0) = (r, l)) (hr : r ≠ 0) (hn : ¬ n = 9) (h : StAt w base s g cap n V C) (hb : Below w.heap.size w w') :
    PushPost base s g cap n V C A w (.returned (.int .i64 r)) w' := by
  refine ⟨fun e => absurd e hn, fun _ => ?_⟩
  rw [hs]
  exact ⟨rfl, only_of_below hb, fun _ => h.below hb, fun e => absurd e hr⟩
theorem push_fin {base s g cap n g' cap' : Nat} {V : List Int} {C : Nat → Int} {A : List (Int × Int)} {w w' : World} {l : Nat → Int} (hs : scanA A (fun _ => false) (fun _ => 0) = (0, l)) (hn : ¬ n = 9) (ho : Only s g w w') (hg : g' = g ∨ w.heap.size ≤ g') (h : StAt w' base s g' cap' (n + 1) (V ++ (List.range 33).map l) C) :
    PushPost base s g cap n V C A w (.returned (.int .i64 0)) w' := by
  refine ⟨fun e => absurd e hn, fun _ => ?_⟩
  rw [hs]
  exact ⟨rfl, ho, fun e => absurd rfl e, fun _ => ⟨g', cap', hg, h⟩⟩
theorem exec_row {P : Program} {a : Act} {w : World} {o : Oper} (ty : TypeId) (x : Operand) (ho : o.op = .load ty x) (p : Addr) (v : Value) (hx : a.eval x = .pointer (some p))
    (hl : (Instr.loadAt ty (.pointer (some p))).run P w = .ok v w) : (execOp a.eval o).run P w = .ok (.value v) w := by
  unfold execOp
  simp only [ho, hx, Sem.run_bind, hl, Result.andThen_ok, Sem.run_pure]
theorem lv_made (W : World) (l : Nat → Int) : ∀ j u, (lvC l).toList[j]? = some u → (W.alloc (.cells (lvC l) 50)).cell? ((⟨W.heap.size, 0, none⟩ : Addr).add j) = some u := by
  intro j u hu
  rw [Addr.add_mid, Nat.zero_add, (Blk.new W 50 (lvC l)).cell]
  simpa using hu
theorem lv_one (l : Nat → Int) : ∀ x ∈ (lvC l).toList, x.oneCell' = true := by
  intro x hx
  simp [lvC] at hx
  obtain ⟨i, _, rfl⟩ := hx
  rfl
theorem lv_map (l : Nat → Int) : ((List.range 33).map l).map (Value.int .i64) = (lvC l).toList := by simp [lvC]
theorem lv_fill (l : Nat → Int) : Instr.fill (fun i => some (i * 33, 33)) ((Array.range (1 * 33)).map ((Value.agg (List.replicate 33 (Value.int .i64 0)).toArray).cells[· % (Value.agg (List.replicate 33 (Value.int .i64 0)).toArray).cells.size]!)) [(0, .agg (lvC l))] = some (lvC l) := by with_unfolding_all kernel_rfl
theorem level1 (l : Nat → Int) (W : World) : (Instr.buildSlice 56 1 #[(0, .agg (lvC l))]).run Tryd.prog W = .ok (.slice (some ⟨W.heap.size, 0, none⟩) 1 1) (W.alloc (.cells (lvC l) 50)) := by
  obtain ⟨i0, hi, hz0, hz1, hz2⟩ := info_parts infoLevel
  exact run_buildSlice W _ 50 1 _ (lvC l) i0 _ Tryd.underlying56 hi hz0 (by rw [hz1]; decide) (by rw [hz1]; decide) (by rw [hz1]; exact lv_fill l)
theorem wp_level1 {o : Oper} {a : Act} {w : World} {K : Act → World → Prop} {Q : Exit → Act → World → Prop} (x : Operand) (l : Nat → Int) (ho : o.op = .buildSlice 56 1 #[(0, x)]) (hx : a.eval x = .agg (lvC l))
    (h : K (a.put o.dst (.slice (some ⟨w.heap.size, 0, none⟩) 1 1)) (w.alloc (.cells (lvC l) 50))) : o.wp Tryd.prog a w K Q := by
  unfold Oper.wp execOp
  simp only [ho, List.map_toArray, List.map_cons, List.map_nil, hx, Sem.run_bind, level1, Result.andThen_ok, Sem.run_pure]
  exact h
theorem gVar : Tryd.prog.globalNamed "cnc/vars.numbers" = some 0 := by kernel_rfl
theorem tab_below {B : Nat} {w w' : World} (ht : Lib.TabIs Tryd.prog w "cnc/vars.numbers" .i64 tabNums) (h : Below B w w') (hB : 0 < B) : Lib.TabIs Tryd.prog w' "cnc/vars.numbers" .i64 tabNums := var?_below h gVar hB ht

set_option maxRecDepth 100000 in
set_option maxHeartbeats 2000000 in
theorem push_any {base s g cap n : Nat} {V : List Int} {C : Nat → Int} (a : Option Addr) (A : List (Int × Int)) (cp : Nat) (w : World) (h : StAt w base s g cap n V C) (hA : ArgsAt w a A) (hl63 : A.length ≤ 9223372036854775807) (ht : Lib.TabIs Tryd.prog w "cnc/vars.numbers" .i64 tabNums) (hb0 : 0 < base) :
    Calls Tryd.prog 18 #[.pointer (some ⟨s, 0, none⟩), .slice a A.length cp] w (PushPost base s g cap n V C A w) := by
  have K := Lib.hid (level_any base s g cap n V C w h)
  have hn := h.2.2.2
  have hsg := h.2.2.1
  have hw0 : 0 < w.heap.size := by have := h.1.lt; omega
  by_cases h9 : n = 9
  · subst h9
    go_enter Tryd.func18, Tryd.ntmps18
    go_wp2_with fail
    refine K.out.mono ?_
    rintro e w' ⟨rfl, rfl⟩
    go_wp2_with fail
    go_ret
    exact ⟨fun _ => ⟨rfl, h, Only.refl _ _ _⟩, fun h => by omega⟩
  · have d9 : ((n : Int) - 1 == 8) = false := by simp; omega
    have hn9 := h9
    go_enter Tryd.func18, Tryd.ntmps18
    go_wp2_with fail
    refine K.out.mono ?_
    rintro e w' ⟨rfl, rfl⟩
    clear K
    go_wp2_with fail
    go_loopw [15] (fun s15 wr => ∃ (j : Nat) (l : Nat → Int) (S : Nat → Bool), j ≤ A.length ∧ s15 = .int .i64 j ∧ Blk wr w.heap.size 50 (lvC l) ∧ Blk wr (w.heap.size + 1) 64 (seenC S) ∧ scanA (A.drop j) S l = scanA A (fun _ => false) (fun _ => 0) ∧ Below w.heap.size w wr)
      (fun s15 _ => A.length - (intOf s15).toNat)
    case atStart =>
      refine ⟨0, fun _ => 0, fun _ => false, by omega, rfl, ?_, ?_, rfl, ?_⟩
      · exact (Blk.new w 50 (lvC fun _ => 0)).alloc _
      · have := Blk.new (w.alloc (.cells (lvC fun _ => 0) 50)) 64 (seenC fun _ => false)
        rw [World.size_alloc] at this
        exact this
      · exact ((Below.refl w.heap.size w).alloc (Nat.le_refl _) _).alloc (by simp) _
    case round =>
      obtain ⟨j, l, S, hj, rfl, hkb, hks, hs, bel⟩ := hrel
      have htr := tab_below ht bel hw0
      have hszr := bel.size
      have hksl := hks.lt
      by_cases hlt : j < A.length
      · obtain ⟨⟨c, v⟩, hcv⟩ : ∃ cv, A[j]? = some cv := ⟨_, List.getElem?_eq_getElem hlt⟩
        obtain ⟨b, o, rfl, hbl, k1, k2⟩ := hA j c v hcv
        have q1 := (bel.cell (p := ⟨b, o + j * 2, none⟩) hbl).trans k1
        have q2 := (bel.cell (p := ⟨b, o + j * 2 + 1, none⟩) hbl).trans k2
        rw [scan_drop hcv S l] at hs
        have hln := localN_bd c
        have hta := fun o' => tab_below (htr) ((Below.refl wr.heap.size wr).alloc (Nat.le_refl _) o') (by omega)
        have KL := Lib.hid (fun o' => local_any c (wr.alloc o') (hta o'))
        have bela := fun o' => (bel.alloc hszr o' : Below w.heap.size w (wr.alloc o'))
        have i1 : (0 : Int) ≤ (j : Int) := by omega
        have i2 : (j : Int) < (A.length : Int) := by omega
        have i3 : IntKind.i64.wrap ((j : Int) + 1) = (j : Int) + 1 := by rw [IntKind.wrap_i64]; omega
        have d1 : decide (j < A.length) = true := by simp; omega
        obtain ⟨ln, eln⟩ : ∃ z, localN c = z := ⟨_, rfl⟩
        rw [eln] at hs hln
        have KL' : Hid (∀ o', Calls Tryd.prog 11 #[.int .i64 c] (wr.alloc o') fun e w' => e = .returned (.int .i64 ln) ∧ wr.alloc o' = w') := by
          refine Lib.hid fun o' => ?_
          have := KL.out o'
          rwa [eln] at this
        clear KL eln hcv k1 k2 hta
        by_cases hz : ln = 0
        · subst hz
          rw [if_pos rfl] at hs
          have HS := Lib.hid hs
          clear hs hln
          go_wp2_with fail
          refine (KL'.out _).mono ?_
          rintro e w' ⟨rfl, rfl⟩
          go_wp2_with fail
          go_ret
          exact push_err HS.out.symm (by decide) hn9 h (bela _)
        · obtain ⟨ln1, ln2, hc1⟩ := hln
          obtain ⟨hc1, hc2⟩ := hc1 hz
          rw [if_neg hz] at hs
          have z0 : (ln == 0) = false := by simp; exact hz
          have hi26 : (c - 65).toNat < 26 := by omega
          have kS := hks.cell' (c - 65).toNat (seenC_at S hi26)
          have fS := hks.frozen (c - 65).toNat
          have wc : IntKind.i64.wrap (c - 65) = c - 65 := by rw [IntKind.wrap_i64]; omega
          have c1 : (0 : Int) ≤ c - 65 := by omega
          have c2 : c - 65 < 26 := by omega
          by_cases hS : S (c - 65).toNat = true
          · rw [if_pos hS] at hs
            rw [hS] at kS
            have HS := Lib.hid hs
            clear hs hz hS
            go_wp2_with fail
            refine (KL'.out _).mono ?_
            rintro e w' ⟨rfl, rfl⟩
            go_wp2_with fail
            go_ret
            exact push_err HS.out.symm (by decide) hn9 h (bela _)
          · rw [if_neg hS] at hs
            rw [Bool.not_eq_true] at hS
            rw [hS] at kS
            by_cases hv : okV v
            · rw [if_pos hv] at hs
              rw [show (ln - 1).toNat = ln.toNat - 1 by omega] at hs
              have KV := Lib.hid (fun W => valid_yes hv W)
              have HS := Lib.hid hs
              have wl : IntKind.i64.wrap (ln - 1) = ln - 1 := by rw [IntKind.wrap_i64]; omega
              have l1 : (0 : Int) ≤ ln - 1 := by omega
              have l2 : ln - 1 < 33 := by omega
              have kL := hkb.cell' (ln.toNat - 1) (lvC_at l (by omega))
              have fL := hkb.frozen (ln.toNat - 1)
              have kb2 := hkb.far (p := ⟨w.heap.size + 1, (c - 65).toNat, none⟩) (show w.heap.size ≠ w.heap.size + 1 by omega) (.bool true)
              have fL2 := kb2.frozen (ln.toNat - 1)
              have kL2 := kb2.cell' (ln.toNat - 1) (lvC_at l (by omega))
              have fL3 := (kb2.alloc (.cells #[.int .i64 c, .int .i64 v] 36)).frozen (ln.toNat - 1)
              have kL3 := (kb2.alloc (.cells #[.int .i64 c, .int .i64 v] 36)).cell' (ln.toNat - 1) (lvC_at l (by omega))
              clear kb2
              clear hs hz hS hv
              go_wp2_with fail
              refine (KL'.out _).mono ?_
              rintro e w' ⟨rfl, rfl⟩
              go_wp2_with fail
              refine (KV.out _).mono ?_
              rintro e w' ⟨rfl, rfl⟩
              go_wp2_with fail
              go_roundw
              case rel =>
                refine ⟨j + 1, updC l (ln.toNat - 1) v, updB S (c - 65).toNat, hlt, by go_num, ?_, ?_, HS.out, ?_⟩
                · have := ((hkb.far (p := ⟨w.heap.size + 1, (c - 65).toNat, none⟩) (show w.heap.size ≠ w.heap.size + 1 by omega) (.bool true)).alloc (.cells #[.int .i64 c, .int .i64 v] 36)).put (ln.toNat - 1) (.int .i64 v)
                  rwa [lvC_set l (by omega)] at this
                · have := ((hks.put (c - 65).toNat (.bool true)).alloc (.cells #[.int .i64 c, .int .i64 v] 36)).far (p := ⟨w.heap.size, ln.toNat - 1, none⟩) (show w.heap.size + 1 ≠ w.heap.size by omega) (.int .i64 v)
                  rwa [seenC_set S hi26] at this
                · exact ((bel.setCell (p := ⟨w.heap.size + 1, (c - 65).toNat, none⟩) (by simp) _).alloc (by simpa [World.setCell] using hszr) _).setCell (p := ⟨w.heap.size, ln.toNat - 1, none⟩) (Nat.le_refl _) _
              case measure => simp [intOf]; omega
            · rw [if_neg hv] at hs
              have KV := Lib.hid (fun W => valid_no hv W)
              have HS := Lib.hid hs
              clear hs hz hS hv
              go_wp2_with fail
              refine (KL'.out _).mono ?_
              rintro e w' ⟨rfl, rfl⟩
              go_wp2_with fail
              refine (KV.out _).mono ?_
              rintro e w' ⟨rfl, rfl⟩
              go_wp2_with fail
              go_ret
              exact push_err HS.out.symm (by decide) hn9 h (bela _)
      · obtain rfl : j = A.length := by omega
        rw [List.drop_length] at hs
        replace hs : scanA A (fun _ => false) (fun _ => 0) = (0, l) := hs.symm
        have hst := h.below bel
        have hown := hst.2.1.drew
        have hbg := h.baseg
        have hsl := h.1.lt
        obtain ⟨i0, hi, hz0, hz1, hz2⟩ := info_parts infoLevel
        have LEV := (hst.1.drew.cell 0).trans (stC_zero _ _)
        have hkl := hkb.lt
        go_wp2_with fail
        refine wp_region_held_drew (S := fun w' => Blk w' w.heap.size 50 (lvC l)) (by kernel_rfl) hkb.drew fun hS0 => ?_
        refine take_first 0 (v := .pointer (some ⟨s, 0, none⟩)) rfl (by kernel_rfl) (by kernel_rfl) (by kernel_rfl) (fun _ _ _ h => h) rfl (fun W' hW' => by go_simp) hS0 ?_
        refine take_first 1 (v := .pointer (some ⟨s, 0, none⟩)) rfl (by kernel_rfl) (by kernel_rfl) (by kernel_rfl) (fun _ _ _ h => h) rfl (fun W' hW' => by go_simp) hS0 ?_
        refine take_first 2 (v := .pointer (some ⟨s, 0, none⟩)) rfl (by kernel_rfl) (by kernel_rfl) (by kernel_rfl) (fun _ _ _ h => h) rfl (fun W' hW' => by go_simp) hS0 ?_
        refine take_first 3 (v := .pointer (some ⟨s, 0, none⟩)) rfl (by kernel_rfl) (by kernel_rfl) (by kernel_rfl) (fun _ _ _ h => h) rfl (fun W' hW' => by go_simp) hS0 ?_
        refine take_first 5 (v := .agg (lvC l)) rfl (by kernel_rfl) (by kernel_rfl) (by kernel_rfl) (fun _ _ _ h => h) rfl (fun W' hW' => by exact exec_row 50 (.tmp 5) rfl ⟨w.heap.size, 0, none⟩ _ (by go_simp) (run_loadAt_mid _ w.heap.size 0 50 (lvC l).toList _ (fun k x hx => (hW'.cell' (0 + k) (by simpa using hx))) Tryd.underlying50 rfl (by kernel_rfl))) hS0 ?_
        refine two_next 4 6 (by kernel_rfl) rfl rfl rfl rfl (fun K1 hK1 => ?_) (fun K1 hK1 => ?_)
        · skip
          have HK1 := Lib.hid hK1
          clear hK1
          have e0 := LEV
          go_simp
          refine HK1.out _ _ hS0 ?_
          clear e0
          refine one_next 6 (by kernel_rfl) rfl rfl fun K2 hK2 => ?_
          refine wp_level1 (.tmp 51) l rfl (by with_unfolding_all rfl) ?_
          refine hK2 _ _ (hkb.drew.alloc _) ?_
          refine one_next 7 (by kernel_rfl) rfl rfl fun K3 hK3 => ?_
          refine wp_append_lies _ (.tmp 50) (.tmp 52) 56 rfl base 50 i0 (.agg (List.replicate 33 (Value.int .i64 0)).toArray) 33 264 Tryd.underlying56 hi hz0 hz1 hz2 (by kernel_rfl) (by decide) (.slice (some ⟨g, 0, none⟩) n cap) n _ (by with_unfolding_all rfl) (hown.alloc _) ⟨wr.heap.size, 0, none⟩ 1 1 (lvC l).toList (by with_unfolding_all rfl) (by rw [Array.length_toList, lvC_size]) (lv_made _ _) (lv_one _) (by omega) (by unfold maxLen; omega) (by omega) (by simp; omega) (wr.heap.size + 1) (by simp) ?_
          intro g' c' w1 hown' hgrow hat hlt'
          have hrow : some s ≠ (Value.slice (some ⟨g, 0, none⟩) n cap).ownBlock := fun e => hsg (by have e' : some s = some g := e; exact Option.some.inj e')
          have kb1 : Blk w1 s 60 (stC (.slice (some ⟨g, 0, none⟩) n cap) C) := (hst.1.drew.alloc _).grown hgrow hrow
          have kl1 : Blk w1 w.heap.size 50 (lvC l) := (hkb.drew.alloc _).grown hgrow (fun e => by have e' : some w.heap.size = some g := e; have := Option.some.inj e'; omega)
          refine hK3 _ _ kl1 ?_
          refine take_first 8 (v := .pointer (some ⟨s, 0, none⟩)) rfl (by kernel_rfl) (by kernel_rfl) (by kernel_rfl) (fun _ _ _ h => h) rfl (fun W' hW' => by go_simp) kl1 ?_
          refine take_first 9 (v := .pointer (some ⟨s, 0, none⟩)) rfl (by kernel_rfl) (by kernel_rfl) (by kernel_rfl) (fun _ _ _ h => h) rfl (fun W' hW' => by go_simp) kl1 ?_
          refine one_next 10 (by kernel_rfl) rfl rfl fun K4 hK4 => ?_
          have HK4 := Lib.hid hK4
          clear hK4
          have e0 := (kb1.cell 0).trans (stC_zero _ _)
          have f0 := kb1.frozen 0
          go_simp
          refine HK4.out _ _ (kl1.far (p := ⟨s, 0, none⟩) (show w.heap.size ≠ s by omega) _) ?_
          refine wpAnyH_done (by kernel_rfl) ?_ _
          have kst := kb1.put 0 (.slice (some ⟨g', 0, none⟩) (n + 1) c')
          rw [stC_lv] at kst
          have hsg' : s ≠ g' := by
            rcases hat with e | e
            · exact fun x => hsg (by have e' : some g = some g' := e; rw [x]; exact (Option.some.inj e').symm)
            · omega
          have hon := hown'.kept (grown_setCell (p := ⟨s, 0, none⟩) (grown_refl w1 (some s)) (.inl rfl) (.slice (some ⟨g', 0, none⟩) (n + 1) c')) (.inr fun e => hsg' (by have e' : some g' = some s := e; exact (Option.some.inj e').symm))
          have honly : Only s g w (w1.setCell ⟨s, 0, none⟩ (.slice (some ⟨g', 0, none⟩) (n + 1) c')) := by
            refine ⟨hgrow.os.trans bel.os, hgrow.tape.trans bel.tape, hgrow.output.trans bel.output, ?_, fun b hb h1 h2 => ?_⟩
            · have := hgrow.size; have := bel.size; simp [World.setCell] at *; omega
            · rw [Below.heap_setCell _ _ _ b (fun e => h1 e)]
              refine (hgrow.block b (by have := bel.size; simp; omega) (fun e => h2 (by have e' : some b = some g := e; exact Option.some.inj e'))).trans ?_
              refine (Below.heap_alloc _ _ b (by have := bel.size; simp; omega)).trans ?_
              exact bel.block b hb
          clear e0 f0 hgrow hown' kb1 kl1
          go_simp
          go_wp2_with fail
          go_ret
          exact push_fin hs hn9 honly (hat.imp (fun e => by have e' : some g = some g' := e; exact (Option.some.inj e').symm) (fun e => by omega)) ⟨kst, by rw [List.map_append, lv_map]; exact hon, hsg', hn.1, by omega, by omega⟩
        · skip
          refine wp_level1 (.tmp 51) l rfl (by with_unfolding_all rfl) ?_
          refine hK1 _ _ (hkb.drew.alloc _) ?_
          refine one_next 4 (by kernel_rfl) rfl rfl fun K2 hK2 => ?_
          have LEV2 := ((hst.1.drew.alloc (.cells (lvC l) 50)).cell 0).trans (stC_zero _ _)
          have LEV3 := ((hst.1.alloc (.cells (lvC l) 50)).cell 0).trans (stC_zero _ _)
          have LEV4 := (hst.1.cell 0).trans (stC_zero _ _)
          have hslr : s < wr.heap.size := by omega
          have hsner : s ≠ wr.heap.size := by omega
          have HK2 := Lib.hid hK2
          clear hK2
          have e0 := LEV
          go_simp
          refine HK2.out _ _ (hkb.drew.alloc _) ?_
          clear e0
          refine one_next 7 (by kernel_rfl) rfl rfl fun K3 hK3 => ?_
          refine wp_append_lies _ (.tmp 50) (.tmp 52) 56 rfl base 50 i0 (.agg (List.replicate 33 (Value.int .i64 0)).toArray) 33 264 Tryd.underlying56 hi hz0 hz1 hz2 (by kernel_rfl) (by decide) (.slice (some ⟨g, 0, none⟩) n cap) n _ (by with_unfolding_all rfl) (hown.alloc _) ⟨wr.heap.size, 0, none⟩ 1 1 (lvC l).toList (by with_unfolding_all rfl) (by rw [Array.length_toList, lvC_size]) (lv_made _ _) (lv_one _) (by omega) (by unfold maxLen; omega) (by omega) (by simp; omega) (wr.heap.size + 1) (by simp) ?_
          intro g' c' w1 hown' hgrow hat hlt'
          have hrow : some s ≠ (Value.slice (some ⟨g, 0, none⟩) n cap).ownBlock := fun e => hsg (by have e' : some s = some g := e; exact Option.some.inj e')
          have kb1 : Blk w1 s 60 (stC (.slice (some ⟨g, 0, none⟩) n cap) C) := (hst.1.drew.alloc _).grown hgrow hrow
          have kl1 : Blk w1 w.heap.size 50 (lvC l) := (hkb.drew.alloc _).grown hgrow (fun e => by have e' : some w.heap.size = some g := e; have := Option.some.inj e'; omega)
          refine hK3 _ _ kl1 ?_
          refine take_first 8 (v := .pointer (some ⟨s, 0, none⟩)) rfl (by kernel_rfl) (by kernel_rfl) (by kernel_rfl) (fun _ _ _ h => h) rfl (fun W' hW' => by go_simp) kl1 ?_
          refine take_first 9 (v := .pointer (some ⟨s, 0, none⟩)) rfl (by kernel_rfl) (by kernel_rfl) (by kernel_rfl) (fun _ _ _ h => h) rfl (fun W' hW' => by go_simp) kl1 ?_
          refine one_next 10 (by kernel_rfl) rfl rfl fun K4 hK4 => ?_
          have HK4 := Lib.hid hK4
          clear hK4
          have e0 := (kb1.cell 0).trans (stC_zero _ _)
          have f0 := kb1.frozen 0
          go_simp
          refine HK4.out _ _ (kl1.far (p := ⟨s, 0, none⟩) (show w.heap.size ≠ s by omega) _) ?_
          refine wpAnyH_done (by kernel_rfl) ?_ _
          have kst := kb1.put 0 (.slice (some ⟨g', 0, none⟩) (n + 1) c')
          rw [stC_lv] at kst
          have hsg' : s ≠ g' := by
            rcases hat with e | e
            · exact fun x => hsg (by have e' : some g = some g' := e; rw [x]; exact (Option.some.inj e').symm)
            · omega
          have hon := hown'.kept (grown_setCell (p := ⟨s, 0, none⟩) (grown_refl w1 (some s)) (.inl rfl) (.slice (some ⟨g', 0, none⟩) (n + 1) c')) (.inr fun e => hsg' (by have e' : some g' = some s := e; exact (Option.some.inj e').symm))
          have honly : Only s g w (w1.setCell ⟨s, 0, none⟩ (.slice (some ⟨g', 0, none⟩) (n + 1) c')) := by
            refine ⟨hgrow.os.trans bel.os, hgrow.tape.trans bel.tape, hgrow.output.trans bel.output, ?_, fun b hb h1 h2 => ?_⟩
            · have := hgrow.size; have := bel.size; simp [World.setCell] at *; omega
            · rw [Below.heap_setCell _ _ _ b (fun e => h1 e)]
              refine (hgrow.block b (by have := bel.size; simp; omega) (fun e => h2 (by have e' : some b = some g := e; exact Option.some.inj e'))).trans ?_
              refine (Below.heap_alloc _ _ b (by have := bel.size; simp; omega)).trans ?_
              exact bel.block b hb
          clear e0 f0 hgrow hown' kb1 kl1
          go_simp
          go_wp2_with fail
          go_ret
          exact push_fin hs hn9 honly (hat.imp (fun e => by have e' : some g = some g' := e; exact (Option.some.inj e').symm) (fun e => by omega)) ⟨kst, by rw [List.map_append, lv_map]; exact hon, hsg', hn.1, by omega, by omega⟩
end Go.Proofs.YtdbhkpkndfhcoaaDoor
