/-
  OutputLast returns true. Its arguments: any.
-/
import Derived.Test.YtbagekkgmemfcaaLastLaw
import Derived.Test.YtbagekkgmemfcaaTab
namespace Go.Proofs.Ytbagekkgmemfcaa
open Go Go.RowKit
set_option linter.unusedVariables false

/-- The flags and an item, and nothing old has turned. -/
structure LastS (B : Nat) (w0 : World) (g : Nat) (b : Nat → Bool) (g' : Nat) (cs : List Value) (w : World) : Prop where
  fl : Blk w g 31 (flags b).toArray
  it : Blk w g' 25 cs.toArray
  bel : Below B w0 w
  size : B ≤ w.heap.size
section
variable {B : Nat} {w0 w w' : World} {g g' : Nat} {b : Nat → Bool} {cs : List Value}
theorem LastS.alloc (h : LastS B w0 g b g' cs w) (o : Obj) : LastS B w0 g b g' cs (w.alloc o) := ⟨h.fl.alloc o, h.it.alloc o, h.bel.alloc h.size o, Nat.le_trans h.size (by simp)⟩
theorem LastS.put (h : LastS B w0 g b g' cs w) (hg : g ≠ g') (hB : B ≤ g') (i : Nat) (u : Value) : LastS B w0 g b g' (cs.set i u) (w.setCell ⟨g', i, none⟩ u) :=
  ⟨h.fl.far hg u, by have := h.it.put i u; simpa using this, h.bel.trans ⟨rfl, rfl, rfl, by simp, fun k hk => Below.heap_setCell _ _ _ _ (by simp; omega)⟩, by simpa using h.size⟩
end
/-- An item, from the table. -/
theorem item_of {w : World} {c : List Value} (h : Leaves w itemKs c) : ∃ k n on, ItemV c k n on := item_cells h

set_option maxRecDepth 100000 in
set_option maxHeartbeats 1000000 in
theorem last_walk (a0 : Option Addr) (len0 cap0 : Nat) (a1 : Int) (w : World) (h0 : Leaf w (.tab itemKs) (.slice a0 len0 cap0)) :
    Calls Try.prog 4 #[.slice a0 len0 cap0, .int .i64 a1] w fun e w' => e = .returned (.bool true) ∧ Below w.heap.size w w' := by
  obtain ⟨f, ht, hleaf, hmax, hnil⟩ := TabAt.of_leaf h0 (C := 22) rfl (by omega)
  clear h0
  obtain ⟨s, hs⟩ : ∃ s, a1 % 65536 = s := ⟨_, rfl⟩
  have hs0 : 0 ≤ s ∧ s < 65536 := by omega
  obtain ⟨hs0, hs1⟩ := hs0
  have hit : ∀ k, k < len0 → ∃ q n on, ItemV (f k) q n on := fun k hk => item_of (hleaf k hk)
  go_enter Try.func4, Try.ntmps4
  go_wp2_with fail
  refine (awake_true _).mono ?_
  rintro e wa ⟨rfl, bel⟩
  by_cases hn : len0 ≤ 60
  · have d60 : decide ((60 : Int) < (len0 : Int)) = false := by simp; omega
    have hsz := bel.size
    go_wp2_with (go_at_call 8; refine (mod_any _ _ _ (by omega) (by omega)).mono ?_; rintro e w' ⟨rfl, rfl⟩; rw [hs])
    go_loopw [19] (fun v19 wr => ∃ k : Nat, k ≤ 16 ∧ v19 = .int .i64 k ∧ Blk wr wa.heap.size 31 (flags fun i => if i < k then bitB s i else false).toArray ∧ Below w.heap.size w wr)
      (fun v19 _ => 16 - (intOf v19).toNat)
    case atStart => exact ⟨0, by omega, rfl, Blk.new wa _ _, bel.alloc hsz _⟩
    case round =>
      obtain ⟨k, hk, rfl, hb, belr⟩ := hrel
      by_cases hlt : k < 16
      · have i1 : (0 : Int) ≤ (k : Int) := by omega
        have i2 : (k : Int) < 16 := by omega
        have c1 := hb.cell' k (flags_at _ hlt)
        have c2 := hb.frozen k
        go_wp2_with fail
        go_roundw
        case rel =>
          refine ⟨k + 1, hlt, by go_num, ?_, belr.setCell (by simp; omega) _⟩
          have := hb.put k (.bool (bitB s k))
          rw [flags_put _ _ hlt] at this
          rw [flags_congr (b' := fun i => if i = k then bitB s k else if i < k then bitB s i else false)]
          · exact this
          · intro i _
            by_cases e : i = k
            · subst e; simp
            · simp only [e, if_false, show (i < k + 1) = (i < k) by simp; omega]
        case measure => simp [intOf]; omega
      · obtain rfl : k = 16 := by omega
        rw [show ((16 : Nat) : Int) = 16 from rfl]
        have hb' : Blk wr wa.heap.size 31 (flags (bitB s)).toArray := by
          rw [flags_congr (b' := bitB s)] at hb
          · exact hb
          · intro i hi; simp [hi]
        clear hb
        go_wp2_with fail
        go_loopw [5, 33] (fun v5 v33 wr => ∃ (k : Nat) (now : Int), k ≤ len0 ∧ v33 = .int .i64 k ∧ v5 = .int .i64 now ∧ 0 ≤ now ∧ now < 65536 ∧ Blk wr wa.heap.size 31 (flags (bitB now)).toArray ∧ Below w.heap.size w wr)
          (fun _ v33 _ => len0 - (intOf v33).toNat)
        case atStart => exact ⟨0, s, by omega, rfl, rfl, hs0, hs1, hb', belr⟩
        case round =>
          clear hb' belr
          obtain ⟨k, now, hk, rfl, rfl, n0, n1, hb, belr⟩ := hrel
          by_cases hlt : k < len0
          · obtain ⟨q, n, on, hI⟩ := hit k hlt
            obtain ⟨_, b, o, rfl, hbl, hc⟩ := ht k hlt
            have hrange : wr.rangeAt b (o + k * 22) (f k) := fun j v hv => by
              have hj : j < 22 := by have := (List.getElem?_eq_some_iff.1 hv).1; have := hI.len; omega
              rw [belr.cell hbl, hc j hj]; exact hv
            generalize f k = c at hI hrange hc
            have hlen := hI.len
            have hone := hI.one
            have h19 := hI.num
            have h21 := hI.on
            obtain ⟨m, hm⟩ : ∃ m, n % 16 = m := ⟨_, rfl⟩
            have hm0 : 0 ≤ m ∧ m < 16 := by omega
            obtain ⟨hm0, hm1⟩ := hm0
            obtain ⟨c2, hc2⟩ : ∃ c2, (c.set 0 (.int .i64 10)).set 19 (.int .i64 m) = c2 := ⟨_, rfl⟩
            have hI2 : ItemV c2 10 m on := by
              subst hc2
              refine ⟨by simp [hlen], by simp [hlen], by simp [hlen], by simpa using hI.on, ?_⟩
              intro v hv
              rcases List.mem_or_eq_of_mem_set hv with hv | rfl
              · rcases List.mem_or_eq_of_mem_set hv with hv | rfl
                · exact hone v hv
                · simp [Value.oneCell']
              · simp [Value.oneCell']
            have hlen2 := hI2.len
            have sw := fun W => switch_any now 10 m on c2 hI2 W
            obtain ⟨b0, b1, b2⟩ := swV_bits now m on ⟨n0, n1⟩ ⟨hm0, hm1⟩
            generalize swV now 10 m on = now' at sw b0 b1 b2
            obtain ⟨u0, f0⟩ : ∃ u, c.toArray[0]? = some u := ⟨_, by simpa using hI.kind⟩
            have f19 : c.toArray[19]? = some (.int .i64 n) := by simpa using h19
            have SW := Lib.hid sw
            have B2 := Lib.hid b2
            have hI2' := Lib.hid hI2
            have hlt2 := hb.lt
            have hszr := belr.size
            have hfirst : ∀ z, LastS w.heap.size w wa.heap.size (bitB now) wr.heap.size c ((wr.alloc (.cells z 25)).setRow wr.heap.size c.toArray) := fun z =>
              ⟨(hb.alloc _).rowFar (by omega) _, (Blk.new wr _ z).setRow _, below_row (belr.alloc (by omega) _) (by omega) _, by simp; omega⟩
            clear sw b2 hI hI2 hc
            have i1 : (0 : Int) ≤ (k : Int) := by omega
            have i2 : (k : Int) < (len0 : Int) := by omega
            go_wp2_with (first
              | (refine wpList_load_mid rfl 25 (.tmp 35) rfl b (o + k * 22) rfl c _ hrange Try.underlying25 rfl (by rw [hlen]; kernel_rfl) ?_)
              | (go_at_call 8; refine (mod_any _ _ _ (by omega) (by omega)).mono ?_; rintro e w' ⟨rfl, rfl⟩; rw [hm])
              | (refine wpList_store_row rfl 25 (.tmp 9) (.tmp 36) rfl wr.heap.size c.toArray rfl rfl 25 #[.int .i64 0, .int .i64 0, .int .i64 0, .int .i64 0, .int .i64 0, .int .i64 0, .int .i64 0, .int .i64 0, .int .i64 0, .int .i64 0, .int .i64 0, .int .i64 0, .int .i64 0, .bool false, .int .i64 0, .bool false, .int .i64 0, .int .i64 0, .int .i64 0, .int .i64 0, .int .i64 0, .bool false] (Blk.new wr 25 _) (by rw [List.size_toArray, hlen]; kernel_rfl) (by simp [hlen]) (all_oneCell_toArray hone) ?_; refine on_told (LastS w.heap.size w wa.heap.size (bitB now) wr.heap.size c) (hfirst _) ?_; intro W hW; have e19 := hW.it.cell' 19 f19; have d0 := hW.it.cell' 0 f0; have z0 := hW.it.frozen 0; have z19 := hW.it.frozen 19; have hW2 := (hW.put (by omega) (by omega) 0 (.int .i64 10)).put (by omega) (by omega) 19 (.int .i64 m); rw [hc2] at hW2; have hw2 := hW2.it; have HW2 := Lib.hid hW2; clear hW2)
              | (refine wpList_load_row rfl 25 (.tmp 9) rfl wr.heap.size rfl 25 c2.toArray (0, 0) _ hw2 Try.underlying25 rfl (by rw [List.size_toArray, hlen2]; kernel_rfl) ?_))
            refine calls_told (LastS w.heap.size w wa.heap.size (bitB now) wr.heap.size c2) HW2.out ?_
            intro W2 hW2
            have h3 := hW2.alloc (.cells c2.toArray 25)
            have e19' := h3.it.cell' 19 (v := .int .i64 m) (by simpa using hI2'.out.num)
            have e21 := h3.it.cell' 21 (v := .bool on) (by simpa using hI2'.out.on)
            have cm := h3.fl.cell' m.toNat (flags_at (bitB now) (by omega))
            have fm := h3.fl.frozen m.toNat
            refine (SW.out _).mono ?_
            rintro e w' ⟨rfl, rfl⟩
            go_wp2_with fail
            go_roundw
            case rel =>
              refine ⟨k + 1, now', hlt, by go_num, rfl, b0, b1, ?_, h3.bel.setCell (by simp; omega) _⟩
              have h5 := h3.fl.put m.toNat (.bool on)
              rw [flags_put _ _ (by omega)] at h5
              rw [flags_congr (b' := fun i => if i = m.toNat then on else bitB now i)]
              · exact h5
              · intro i hi
                rw [B2.out i hi]
                by_cases e : (i : Int) = m
                · rw [if_pos e, if_pos (by omega)]
                · rw [if_neg e, if_neg (by omega)]
            case measure => simp [intOf]; omega
          · obtain rfl : k = len0 := by omega
            have N0 := n0
            have N1 := n1
            go_wp2_with fail
            go_loopw [51] (fun v51 wr => ∃ k : Nat, k ≤ 16 ∧ v51 = .int .i64 k ∧ Blk wr wa.heap.size 31 (flags (bitB now)).toArray ∧ Below w.heap.size w wr)
              (fun v51 _ => 16 - (intOf v51).toNat)
            case atStart => exact ⟨0, by omega, rfl, hb, belr⟩
            case round =>
              clear hb belr
              obtain ⟨j, hj, rfl, hb, belr⟩ := hrel
              by_cases hlt3 : j < 16
              · have j1 : (0 : Int) ≤ (j : Int) := by omega
                have j2 : (j : Int) < 16 := by omega
                have c1 := hb.cell' j (flags_at (bitB now) hlt3)
                unfold bitB at c1
                go_wp2_with fail
                go_roundw
                case rel => exact ⟨j + 1, hlt3, by go_num, hb, belr⟩
                case measure => simp [intOf]; omega
              · obtain rfl : j = 16 := by omega
                go_wp2_with fail
                go_ret
                exact ⟨rfl, belr⟩
  · go_wp2_with fail
    go_ret
    exact ⟨rfl, bel⟩
end Go.Proofs.Ytbagekkgmemfcaa
