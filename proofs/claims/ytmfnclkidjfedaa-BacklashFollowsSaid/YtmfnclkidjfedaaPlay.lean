/-
  What Play leaves, and that BacklashPlay and BacklashFollows return true. Their arguments: any.
-/
import Derived.Test.YtmfnclkidjfedaaLaws28
import Derived.Deep.OwnRows
namespace Go.Proofs.Ytmfnclkidjfedaa
open Go Go.RowKit
set_option linter.unusedVariables false

theorem IsRow.len_le {k : IntKind} {w : World} {a : Option Addr} {len cap : Nat} {zs : List Int} (h : IsRow k w a len cap zs) : len ≤ zs.length := by
  rcases h with ⟨_, rfl, _⟩ | ⟨x, _, hl, _, hzl, _⟩
  · omega
  · omega

/-- n numbers that lie where a slice leads. -/
def Ints (w : World) (a : Option Addr) (n : Nat) (z : List Int) : Prop := ∀ i, i < n → ∃ b o, a = some ⟨b, o, none⟩ ∧ b < w.heap.size ∧ w.cell? ⟨b, o + i, none⟩ = some (.int .i64 (z.getD i 0))
theorem ints_below {w w' : World} {a : Option Addr} {n : Nat} {z : List Int} (h : Ints w a n z) (hb : Below w.heap.size w w') : Ints w' a n z := fun i hi => by
  obtain ⟨b, o, e, hl, hc⟩ := h i hi
  exact ⟨b, o, e, by have := hb.size; omega, (hb.cell hl).trans hc⟩
theorem ints_own {w : World} {base n : Nat} {a : Option Addr} {c : Nat} {z : List Int} (h : w.ownsRow base 3 1 (.slice a n c) n (z.map (Value.int .i64))) : Ints w a n z := by
  intro i hi
  rcases h.2 with ⟨_, h0⟩ | ⟨g, cap, cur, hv, _, hg, _⟩
  · omega
  · injection hv with ha _ hc
    subst ha
    subst hc
    have hlen := h.1
    have hc' := h.cellAt i (by omega)
    refine ⟨g, 0, rfl, (Array.getElem?_eq_some_iff.1 hg).1, ?_⟩
    rw [Nat.zero_add, hc']
    simp at hlen
    simp [show i < z.length by omega]

def stateL (b t : Int) (z : List Int) (k : Nat) : Int := (z.take k).foldl (tab b) t
theorem stateL_succ (b t : Int) (z : List Int) (k : Nat) (hk : k < z.length) : stateL b t z (k + 1) = tab b (stateL b t z k) (z.getD k 0) := by
  unfold stateL
  rw [List.take_succ_eq_append_getElem hk, List.foldl_append]
  simp [hk]
theorem stateL_bd (b t : Int) (z : List Int) (n : Nat) (hb : 0 ≤ b ∧ b ≤ 6) (ht : -1099511627776 ≤ t ∧ t ≤ 1099511627776) (hz : ∀ i, i < n → -1099511627776 ≤ z.getD i 0 ∧ z.getD i 0 ≤ 1099511627776) (hn : n ≤ z.length) :
    ∀ k, k ≤ n → -1099511627776 ≤ stateL b t z k ∧ stateL b t z k ≤ 1099511627782 := by
  intro k
  induction k with
  | zero => intro _; simp [stateL]; omega
  | succ k ih =>
    intro hk
    have := ih (by omega)
    have hzk := hz k (by omega)
    rw [stateL_succ b t z k (by omega)]
    unfold tab; omega
/-- The list behind k rounds: the states, then zeros. -/
def outc (b t : Int) (z : List Int) (n k : Nat) : Array Value := ((List.range n).map fun i => Value.int .i64 (if i < k then stateL b t z (i + 1) else 0)).toArray
theorem outc_zero (b t : Int) (z : List Int) (n : Nat) : madeCells #[.int .i64 0] n = outc b t z n 0 := by
  unfold madeCells outc
  apply Array.ext
  · simp
  · intro i h1 h2
    simp [Nat.mod_one]
theorem outc_put (b t : Int) (z : List Int) (n k : Nat) (hk : k < n) : (outc b t z n k).setIfInBounds k (.int .i64 (stateL b t z (k + 1))) = outc b t z n (k + 1) := by
  unfold outc
  apply Array.ext
  · simp
  · intro i h1 h2
    rw [Array.getElem_setIfInBounds (by simpa using h1)]
    simp only [List.getElem_toArray, List.getElem_map, List.getElem_range]
    by_cases e : k = i
    · subst e; simp
    · rw [if_neg e]
      by_cases h : i < k
      · rw [if_pos h, if_pos (by omega)]
      · rw [if_neg h, if_neg (by omega)]
theorem outc_at (b t : Int) (z : List Int) (n i : Nat) (hi : i < n) : (outc b t z n n)[i]? = some (.int .i64 (stateL b t z (i + 1))) := by
  unfold outc
  simp [hi]
theorem outc_some (b t : Int) (z : List Int) (n k i : Nat) (hi : i < n) : ∃ u, (outc b t z n k)[i]? = some u := by
  unfold outc
  simp [hi]

def PlayDone (b t : Int) (z : List Int) (n : Nat) (w : World) (e : Ending) (w' : World) : Prop :=
  e = .returned (.slice (some ⟨w.heap.size + 1, 0, none⟩) n n) ∧ Blk w' (w.heap.size + 1) 3 (outc b t z n n) ∧ Below w.heap.size w w'

set_option maxHeartbeats 1000000 in
theorem play_any (v : AxisV) (hv : v.Good) (t : Int) (a : Option Addr) (n c : Nat) (z : List Int) (w : World) (hnum : Ints w a n z) (hlen : n ≤ z.length) (hn : n ≤ 100) (ht : -1099511627776 ≤ t ∧ t ≤ 1099511627776)
    (hz : ∀ i, i < n → -1099511627776 ≤ z.getD i 0 ∧ z.getD i 0 ≤ 1099511627776) :
    Calls Try.prog 15 #[.agg v.cells, .int .i64 t, .slice a n c] w (PlayDone v.ba t z n w) := by
  have hb := hv.ba
  have hmk := run_make_row' (P := Try.prog) 22 3 (.int .i64 0) 8 Try.underlying22 (by kernel_rfl) rfl .i64 .i64 n (by omega) (by omega)
  have bel0 := Below.refl w.heap.size w
  unfold AxisV.cells
  go_enter Try.func15, Try.ntmps15
  go_wp2_with fail
  go_loopw [1, 15] (fun v1 v15 wr => ∃ k : Nat, k ≤ n ∧ v15 = .int .i64 k ∧ v1 = .int .i64 (stateL v.ba t z k) ∧ Below w.heap.size w wr ∧ Blk wr w.heap.size 25 #[.int .i64 v.st, .int .i64 v.sp, .int .i64 v.ac, .int .i64 v.je, .int .i64 (-16777216), .int .i64 16777216, .int .i64 v.ba, .int .i64 v.og, .int .i64 v.sg, .slice v.pa v.pn v.pc] ∧ Blk wr (w.heap.size + 1) 3 (outc v.ba t z n k))
    (fun _ v15 _ => n - (intOf v15).toNat)
  case atStart => exact ⟨0, by omega, rfl, rfl, ((Below.refl _ _).alloc (Nat.le_refl _) _).alloc (by simp) _, (Blk.new _ _ _).alloc _, by rw [← outc_zero]; have := Blk.new (w.alloc (.cells #[.int .i64 v.st, .int .i64 v.sp, .int .i64 v.ac, .int .i64 v.je, .int .i64 (-16777216), .int .i64 16777216, .int .i64 v.ba, .int .i64 v.og, .int .i64 v.sg, .slice v.pa v.pn v.pc] 25)) 3 (madeCells #[.int .i64 0] n); simpa using this⟩
  case round =>
    obtain ⟨k, hk, rfl, rfl, belr, hblk, hout⟩ := hrel
    by_cases hlt : k < n
    · obtain ⟨b, o, rfl, hbl, hc⟩ := hnum k hlt
      have hcr : wr.cell? ⟨b, o + k, none⟩ = some (.int .i64 (z.getD k 0)) := (belr.cell hbl).trans hc
      clear hc
      have hs := stateL_bd v.ba t z n hb ht hz hlen k hk
      have hzk := hz k hlt
      have hsucc := stateL_succ v.ba t z k (by omega)
      generalize z.getD k 0 = zk at hcr hzk hsucc
      have HS := Lib.hid hsucc
      have hblt := hblk.lt
      have hblt' := hout.lt
      obtain ⟨u, hu⟩ := outc_some v.ba t z n k k hlt
      have co : (wr.alloc (.cells #[.int .i64 v.st, .int .i64 v.sp, .int .i64 v.ac, .int .i64 v.je, .int .i64 (-16777216), .int .i64 16777216, .int .i64 v.ba, .int .i64 v.og, .int .i64 v.sg, .slice v.pa v.pn v.pc] 25)).cell? ⟨w.heap.size + 1, k, none⟩ = some u := ((hout.alloc _).cell k).trans hu
      have fo : (wr.alloc (.cells #[.int .i64 v.st, .int .i64 v.sp, .int .i64 v.ac, .int .i64 v.je, .int .i64 (-16777216), .int .i64 16777216, .int .i64 v.ba, .int .i64 v.og, .int .i64 v.sg, .slice v.pa v.pn v.pc] 25)).frozen? ⟨w.heap.size + 1, k, none⟩ = false := (hout.alloc _).frozen k
      clear hsucc hu
      have e0 := hblk.cell 0
      have e1 := hblk.cell 1
      have e2 := hblk.cell 2
      have e3 := hblk.cell 3
      have e4 := hblk.cell 4
      have e5 := hblk.cell 5
      have e6 := hblk.cell 6
      have e7 := hblk.cell 7
      have e8 := hblk.cell 8
      have e9 := hblk.cell 9
      simp at e0 e1 e2 e3 e4 e5 e6 e7 e8 e9
      have i1 : (0 : Int) ≤ (k : Int) := by omega
      have i2 : (k : Int) < (n : Int) := by omega
      go_wp2_with fail
      refine (table_any v hv _ _ _ (by omega) (by omega) (by omega) (by omega)).mono ?_
      rintro e w' ⟨rfl, rfl⟩
      rw [← HS.out]
      dsimp only [AxisV.cells]
      go_wp2_with fail
      go_roundw
      case rel =>
        refine ⟨k + 1, hlt, by go_num, rfl, by repeat (first | exact belr | (refine Below.setCell ?_ (by simp; try omega) _) | (refine Below.alloc ?_ (by have := belr.size; simp [World.setCell]; try omega) _) | refine Below.drew ?_), (hblk.far (p := ⟨w.heap.size + 1, k, none⟩) (by show w.heap.size ≠ w.heap.size + 1; omega) _).alloc _, ?_⟩
        rw [← outc_put _ _ _ _ _ hlt]
        exact (hout.put k _).alloc _
      case measure => simp [intOf]; omega
    · obtain rfl : k = n := by omega
      go_wp2_with fail
      go_ret
      exact ⟨rfl, hout, belr⟩

set_option maxRecDepth 100000 in
set_option maxHeartbeats 1000000 in
theorem play_walk (a0 : Option Addr) (len0 cap0 : Nat) (z0 : List Int) (a1 : Int) (a2 : Option Addr) (len2 cap2 : Nat) (z2 : List Int) (w : World) (hr : IsRow .i64 w a0 len0 cap0 z0) (hr2 : IsRow .i64 w a2 len2 cap2 z2) :
    Calls Try.prog 6 #[.slice a0 len0 cap0, .int .i64 a1, .slice a2 len2 cap2] w fun e w' => e = .returned (.bool true) ∧ Below w.heap.size w w' := by
  have hr2' := hr2
  have hnum := hr2.num
  have hmost := hr2.most
  have hlen := hr2.len_le
  go_enter Try.func6, Try.ntmps6
  go_wp2_with fail
  refine (awake_true _).mono ?_
  rintro e wa ⟨rfl, bela⟩
  go_wp2_with fail
  refine (axes_any wa _ _ _ z0 (hr.below bela)).mono ?_
  rintro e wb ⟨v1, v2, v3, rfl, g1, g2, g3, belb, own⟩
  have bel := bela.trans (belb.mono bela.size)
  clear bela belb own
  have i0 := fun W => axis0 v1 v2 v3 W
  simp only [AxisV.cells, List.append_toArray, List.cons_append, List.nil_append] at i0 ⊢
  by_cases h1 : nearB a1 = true
  · by_cases h2 : len2 ≤ 100
    · have n1 : -1099511627776 ≤ a1 ∧ a1 ≤ 1099511627776 := by simpa [nearB] using h1
      go_wp2_with (go_at_call 10; refine (near_any _ _).mono ?_; rintro e w' ⟨rfl, rfl⟩)
      go_loopw [28] (fun v wr => ∃ k : Nat, k ≤ len2 ∧ v = .int .i64 k ∧ wb.alloc (.cells #[.int .i64 v1.st, .int .i64 v1.sp, .int .i64 v1.ac, .int .i64 v1.je, .int .i64 (-16777216), .int .i64 16777216, .int .i64 v1.ba, .int .i64 v1.og, .int .i64 v1.sg, .slice v1.pa v1.pn v1.pc] 25) = wr ∧ ∀ i, i < k → -1099511627776 ≤ z2.getD i 0 ∧ z2.getD i 0 ≤ 1099511627776) (fun v _ => len2 - (intOf v).toNat)
      case atStart => exact ⟨0, by omega, rfl, rfl, fun i hi => absurd hi (by omega)⟩
      case round =>
        obtain ⟨k, hk, rfl, rfl, hall⟩ := hrel
        have HALL := Lib.hid hall
        clear hall
        by_cases hlt : k < len2
        · obtain ⟨b, o, rfl, hbl, hc⟩ := hnum k hlt
          have hcr : (wb.alloc (.cells #[.int .i64 v1.st, .int .i64 v1.sp, .int .i64 v1.ac, .int .i64 v1.je, .int .i64 (-16777216), .int .i64 16777216, .int .i64 v1.ba, .int .i64 v1.og, .int .i64 v1.sg, .slice v1.pa v1.pn v1.pc] 25)).cell? ⟨b, o + k, none⟩ = some (.int .i64 (z2.getD k 0)) := (((bel.alloc bel.size _).cell hbl)).trans hc
          obtain ⟨zk, hzk⟩ : ∃ zk, z2.getD k 0 = zk := ⟨_, rfl⟩
          rw [hzk] at hcr
          have HZK := Lib.hid hzk
          clear hc hzk
          have i1 : (0 : Int) ≤ (k : Int) := by omega
          have i2 : (k : Int) < (len2 : Int) := by omega
          by_cases h3 : nearB zk = true
          · have n3 : -1099511627776 ≤ zk ∧ zk ≤ 1099511627776 := by simpa [nearB] using h3
            go_wp2_with (go_at_call 10; refine (near_any _ _).mono ?_; rintro e w' ⟨rfl, rfl⟩)
            go_roundw
            case rel =>
              refine ⟨k + 1, hlt, by go_num, trivial, fun i hi => ?_⟩
              by_cases e : i = k
              · subst e; rw [HZK.out]; exact n3
              · exact HALL.out i (by omega)
            case measure => simp [intOf]; omega
          · have h3' : nearB zk = false := by simpa using h3
            go_wp2_with (go_at_call 10; refine (near_any _ _).mono ?_; rintro e w' ⟨rfl, rfl⟩)
            go_ret
            exact ⟨rfl, by repeat (first | exact bel | (refine Below.alloc ?_ (by have := bel.size; simp; try omega) _) | refine Below.drew ?_)⟩
        · obtain rfl : k = len2 := by omega
          go_wp2_with fail
          refine (play_any v1 g1 a1 a2 k cap2 z2 _ (ints_below hr2'.num (bel.alloc bel.size _)) hr2'.len_le h2 n1 HALL.out).mono ?_
          rintro e wc ⟨rfl, hout, belc⟩
          have hsz : ∀ o, (wb.alloc o).heap.size = wb.heap.size + 1 := by intro o; simp
          rw [hsz] at hout ⊢
          have bel2 := (bel.alloc bel.size (.cells #[.int .i64 v1.st, .int .i64 v1.sp, .int .i64 v1.ac, .int .i64 v1.je, .int .i64 (-16777216), .int .i64 16777216, .int .i64 v1.ba, .int .i64 v1.og, .int .i64 v1.sg, .slice v1.pa v1.pn v1.pc] 25)).trans (belc.mono (by have := bel.size; simp; omega))
          have hx := (Blk.new wb 25 #[.int .i64 v1.st, .int .i64 v1.sp, .int .i64 v1.ac, .int .i64 v1.je, .int .i64 (-16777216), .int .i64 16777216, .int .i64 v1.ba, .int .i64 v1.og, .int .i64 v1.sg, .slice v1.pa v1.pn v1.pc]).below belc (by simp)
          clear belc hsz
          have hs := stateL_bd v1.ba a1 z2 k g1.ba n1 HALL.out hlen
          have HS := Lib.hid hs
          clear hs
          go_wp2_with fail
          go_loopw [1, 47] (fun u v wr => ∃ j : Nat, j ≤ k ∧ v = .int .i64 j ∧ u = .int .i64 (stateL v1.ba a1 z2 j) ∧ Below w.heap.size w wr ∧ Blk wr wb.heap.size 25 #[.int .i64 v1.st, .int .i64 v1.sp, .int .i64 v1.ac, .int .i64 v1.je, .int .i64 (-16777216), .int .i64 16777216, .int .i64 v1.ba, .int .i64 v1.og, .int .i64 v1.sg, .slice v1.pa v1.pn v1.pc] ∧ Blk wr (wb.heap.size + 1 + 1) 3 (outc v1.ba a1 z2 k k)) (fun _ v _ => k - (intOf v).toNat)
          case atStart => exact ⟨0, by omega, rfl, rfl, bel2, hx, hout⟩
          case round =>
            clear hx hout bel2
            obtain ⟨j, hj, rfl, rfl, belr, hblk, hout⟩ := hrel
            by_cases hlt : j < k
            · obtain ⟨b, o, rfl, hbl, hc⟩ := hnum j hlt
              have hcr : wr.cell? ⟨b, o + j, none⟩ = some (.int .i64 (z2.getD j 0)) := (belr.cell hbl).trans hc
              clear hc
              have hs := HS.out j (by omega)
              have hzj := HALL.out j hlt
              have hsucc := stateL_succ v1.ba a1 z2 j (by omega)
              generalize z2.getD j 0 = zj at hcr hzj hsucc
              have HSUCC := Lib.hid hsucc
              have hblt := hblk.lt
              have hblt' := hout.lt
              have co : ∀ o, (wr.alloc o).cell? ⟨wb.heap.size + 1 + 1, j, none⟩ = some (.int .i64 (stateL v1.ba a1 z2 (j + 1))) := fun o => ((hout.alloc o).cell j).trans (outc_at _ _ _ _ _ hlt)
              clear hsucc
              have e0 := hblk.cell 0
              have e1 := hblk.cell 1
              have e2 := hblk.cell 2
              have e3 := hblk.cell 3
              have e4 := hblk.cell 4
              have e5 := hblk.cell 5
              have e6 := hblk.cell 6
              have e7 := hblk.cell 7
              have e8 := hblk.cell 8
              have e9 := hblk.cell 9
              simp at e0 e1 e2 e3 e4 e5 e6 e7 e8 e9
              have i1 : (0 : Int) ≤ (j : Int) := by omega
              have i2 : (j : Int) < (k : Int) := by omega
              go_wp2_with fail
              refine (rtable_any v1 g1 _ _ _ (by omega) (by omega) (by omega) (by omega)).mono ?_
              rintro e w' ⟨rfl, rfl⟩
              rw [← HSUCC.out]
              dsimp only [AxisV.cells]
              go_wp2_with fail
              go_roundw
              case rel => exact ⟨j + 1, hlt, by go_num, rfl, by repeat (first | exact belr | (refine Below.setCell ?_ (by simp; try omega) _) | (refine Below.alloc ?_ (by have := belr.size; simp; try omega) _) | refine Below.drew ?_), hblk.alloc _, hout.alloc _⟩
              case measure => simp [intOf]; omega
            · obtain rfl : j = k := by omega
              go_wp2_with fail
              go_ret
              exact ⟨rfl, belr⟩
    · go_wp2_with (go_at_call 10; refine (near_any _ _).mono ?_; rintro e w' ⟨rfl, rfl⟩)
      go_ret
      exact ⟨rfl, by repeat (first | exact bel | (refine Below.alloc ?_ (by have := bel.size; simp; try omega) _) | refine Below.drew ?_)⟩
  · have h1' : nearB a1 = false := by simpa using h1
    go_wp2_with (go_at_call 10; refine (near_any _ _).mono ?_; rintro e w' ⟨rfl, rfl⟩)
    go_ret
    exact ⟨rfl, by repeat (first | exact bel | (refine Below.alloc ?_ (by have := bel.size; simp; try omega) _) | refine Below.drew ?_)⟩

end Go.Proofs.Ytmfnclkidjfedaa
