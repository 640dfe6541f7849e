/-
  cncref07.Store: Push. Stores of 1 to 9 levels; any arguments.
-/
import Derived.Test.YtdbhkpkndfhcoaaDoorRArgs07
namespace Go.Proofs.YtdbhkpkndfhcoaaDoor
open Go Go.RowKit
set_option linter.unusedVariables false

/-- Where the scan finds no error, it goes on at every argument. -/
theorem scan_ok {A : List (Int × Int)} {j : Nat} {c v : Int} {S : Nat → Bool} {l : Nat → Int} (h : A[j]? = some (c, v)) (h0 : (scanA (A.drop j) S l).1 = 0) :
    localN c ≠ 0 ∧ okV v ∧ scanA (A.drop j) S l = scanA (A.drop (j + 1)) (updB S (c - 65).toNat) (updC l (localN c - 1).toNat v) := by
  rw [scan_drop h] at h0 ⊢
  by_cases h1 : localN c = 0
  · rw [if_pos h1] at h0; cases h0
  · rw [if_neg h1] at h0 ⊢
    by_cases h2 : S (c - 65).toNat = true
    · rw [if_pos h2] at h0; cases h0
    · rw [if_neg h2] at h0 ⊢
      by_cases h3 : okV v
      · rw [if_pos h3] at h0 ⊢
        exact ⟨h1, h3, rfl⟩
      · rw [if_neg h3] at h0; cases h0
theorem two_E {P : Program} {ops : Array Oper} {Q : Exit → Act → World → Prop} {S : World → Prop} {L fuel : Nat} {listed : Array Bool} {a : Act} {w : World} (i j : Nat) {oi oj : Oper} (hr : Region.ready .any ops listed = [i, j]) (hi : ops[i]? = some oi) (hj : ops[j]? = some oj) (hwi : Region.wanted oi (yielded ops a.tmps) = true) (hwj : Region.wanted oj (yielded ops a.tmps) = true)
    (h1 : ∀ K : Act → World → Prop, (∀ a w, (i ≠ L → S w) → wpAnyE P .any ops Q S L fuel (listed.setIfInBounds i true) a w → K a w) → oi.wp P a w K Q)
    (h2 : ∀ K : Act → World → Prop, (∀ a w, (j ≠ L → S w) → wpAnyE P .any ops Q S L fuel (listed.setIfInBounds j true) a w → K a w) → oj.wp P a w K Q) : wpAnyE P .any ops Q S L (fuel + 1) listed a w := by
  refine ⟨fun h0 => absurd (hr ▸ h0) (by simp), fun k hk => ?_⟩
  rw [hr] at hk
  rcases List.mem_cons.1 hk with rfl | hk
  · unfold wpOp
    simp only [hi, hwi, if_true]
    exact .inl (h1 _ fun a' w' hS' hW => ⟨hS', hW⟩)
  · obtain rfl := List.mem_singleton.1 hk
    unfold wpOp
    simp only [hj, hwj, if_true]
    exact .inl (h2 _ fun a' w' hS' hW => ⟨hS', hW⟩)
theorem rlv_made (W : World) (l : Nat → Int) (g : Nat) (hb : Blk W g 71 (lvC l)) : ∀ j u, (lvC l).toList[j]? = some u → W.cell? ((⟨g, 0, none⟩ : Addr).add j) = some u := by
  intro j u hu
  rw [Addr.add_mid, Nat.zero_add, hb.cell]
  simpa using hu
theorem rlevel1 (l : Nat → Int) (W : World) : (Instr.buildSlice 65 1 #[(0, .agg (lvC l))]).run Tryd.prog W = .ok (.slice (some ⟨W.heap.size, 0, none⟩) 1 1) (W.alloc (.cells (lvC l) 71)) := by
  obtain ⟨i0, hi, hz0, hz1, hz2⟩ := info_parts rinfoLevel
  exact run_buildSlice W _ 71 1 _ (lvC l) i0 _ Tryd.underlying65 hi hz0 (by rw [hz1]; decide) (by rw [hz1]; decide) (by rw [hz1]; exact lv_fill l)
theorem wp_rlevel1 {o : Oper} {a : Act} {w : World} {K : Act → World → Prop} {Q : Exit → Act → World → Prop} (x : Operand) (l : Nat → Int) (ho : o.op = .buildSlice 65 1 #[(0, x)]) (hx : a.eval x = .agg (lvC l))
    (h : K (a.put o.dst (.slice (some ⟨w.heap.size, 0, none⟩) 1 1)) (w.alloc (.cells (lvC l) 71))) : o.wp Tryd.prog a w K Q := by
  unfold Oper.wp execOp
  simp only [ho, List.map_toArray, List.map_cons, List.map_nil, hx, Sem.run_bind, rlevel1, Result.andThen_ok, Sem.run_pure]
  exact h
theorem RAt.alloc {W : World} {base s g cap n : Nat} {V : List Int} {C : Nat → Int} (h : RAt W base s g cap n V C) (o : Obj) : RAt (W.alloc o) base s g cap n V C := ⟨h.1.alloc o, h.2.1.alloc o, h.2.2⟩
theorem RAt.grown {W W' : World} {base s g cap n : Nat} {V : List Int} {C : Nat → Int} {row : Option Nat} (h : RAt W base s g cap n V C) (hg : W.grownBy W' row) (h1 : some s ≠ row) (h2 : some g ≠ row) : RAt W' base s g cap n V C := ⟨h.1.grown hg h1, h.2.1.kept hg (.inr h2), h.2.2⟩
def RPushPost (base s g cap n : Nat) (V : List Int) (C : Nat → Int) (A : List (Int × Int)) (w : World) (e : Ending) (w' : World) : Prop :=
  (n = 9 → e = .returned (.int .i64 10) ∧ RAt w' base s g cap n V C ∧ Only s g w w') ∧
  (n < 9 → e = .returned (.int .i64 (scanA A (fun _ => false) (fun _ => 0)).1) ∧ Only s g w w' ∧
    ((scanA A (fun _ => false) (fun _ => 0)).1 ≠ 0 → RAt w' base s g cap n V C) ∧
    ((scanA A (fun _ => false) (fun _ => 0)).1 = 0 → ∃ g' cap', w.heap.size ≤ g' ∧ RAt w' base s g' cap' (n + 1) (V ++ (List.range 33).map (scanA A (fun _ => false) (fun _ => 0)).2) C))

theorem rpush_fin {base s g cap n g' cap' : Nat} {V : List Int} {C : Nat → Int} {A : List (Int × Int)} {w w' : World} {l : Nat → Int} (hs : scanA A (fun _ => false) (fun _ => 0) = (0, l)) (hn : ¬ n = 9) (ho : Only s g w w') (hg : w.heap.size ≤ g') (h : RAt w' base s g' cap' (n + 1) (V ++ (List.range 33).map l) C) :
    RPushPost base s g cap n V C A w (.returned (.int .i64 0)) w' := by
  refine ⟨fun e => absurd e hn, fun _ => ?_⟩
  rw [hs]
  exact ⟨rfl, ho, fun e => absurd rfl e, fun _ => ⟨g', cap', hg, h⟩⟩
set_option maxRecDepth 100000 in
set_option maxHeartbeats 2000000 in
theorem rpush_any {base s g cap n : Nat} {V : List Int} {C : Nat → Int} (a : Option Addr) (A : List (Int × Int)) (cp : Nat) (w : World) (h : RAt w base s g cap n V C) (hA : ArgsAt w a A) (hl63 : A.length ≤ 9223372036854775807) :
    Calls Tryd.prog 36 #[.pointer (some ⟨s, 0, none⟩), .slice a A.length cp] w (RPushPost base s g cap n V C A w) := by
  have K := Lib.hid (rlevel_any base s g cap n V C w h)
  have hn := h.2.2.2
  have hsg := h.2.2.1
  by_cases h9 : n = 9
  · subst h9
    go_enter Tryd.func36, Tryd.ntmps36
    go_wp2_with fail
    refine K.out.mono ?_
    rintro e w' ⟨rfl, rfl⟩
    go_wp2_with fail
    go_ret
    exact ⟨fun _ => ⟨rfl, h, Only.refl _ _ _⟩, fun h => by omega⟩
  · have d9 : decide ((8 : Int) ≤ (n : Int) - 1) = false := by simp; omega
    have d9' : (n : Int) - 1 < 8 := by omega
    have KA := Lib.hid (rargs_any a A cp w hA hl63)
    go_enter Tryd.func36, Tryd.ntmps36
    go_wp2_with fail
    refine K.out.mono ?_
    rintro e w' ⟨rfl, rfl⟩
    go_wp2_with fail
    refine KA.out.mono ?_
    rintro e w1 ⟨rfl, b1⟩
    clear K KA
    by_cases he : (scanA A (fun _ => false) (fun _ => 0)).1 = 0
    · rw [he]
      have h1 := h.below b1
      have hA1 := hA.below b1
      go_wp2_with fail
      go_loopw [7] (fun s7 wr => ∃ (j : Nat) (l : Nat → Int) (S : Nat → Bool), j ≤ A.length ∧ s7 = .int .i64 j ∧ Blk wr w1.heap.size 71 (lvC l) ∧ scanA (A.drop j) S l = scanA A (fun _ => false) (fun _ => 0) ∧ Below w1.heap.size w1 wr)
        (fun s7 _ => A.length - (intOf s7).toNat)
      case atStart =>
        refine ⟨0, fun _ => 0, fun _ => false, by omega, rfl, ?_, rfl, ?_⟩
        · exact Blk.new w1 71 (lvC fun _ => 0)
        · exact (Below.refl w1.heap.size w1).alloc (Nat.le_refl _) _
      case round =>
        obtain ⟨j, l, S, hj, rfl, hkb, hs, bel⟩ := hrel
        have hszr := bel.size
        have hkl := hkb.lt
        by_cases hlt : j < A.length
        · obtain ⟨⟨c, v⟩, hcv⟩ : ∃ cv, A[j]? = some cv := ⟨_, List.getElem?_eq_getElem hlt⟩
          obtain ⟨b, o, rfl, hbl, k1, k2⟩ := hA1 j c v hcv
          obtain ⟨z1, z2, z3⟩ := scan_ok hcv (by rw [hs]; exact he : (scanA (A.drop j) S l).1 = 0)
          have q1 := (bel.cell (p := ⟨b, o + j * 2, none⟩) hbl).trans k1
          have q2 := (bel.cell (p := ⟨b, o + j * 2 + 1, none⟩) hbl).trans k2
          have hln := localN_bd c
          have KL := Lib.hid (fun W => rlocal_any c W)
          have i1 : (0 : Int) ≤ (j : Int) := by omega
          have i2 : (j : Int) < (A.length : Int) := by omega
          have i3 : IntKind.i64.wrap ((j : Int) + 1) = (j : Int) + 1 := by rw [IntKind.wrap_i64]; omega
          have d1 : decide (j < A.length) = true := by simp; omega
          rw [z3] at hs
          have HS := Lib.hid hs
          obtain ⟨ln, eln⟩ : ∃ z, localN c = z := ⟨_, rfl⟩
          rw [eln] at KL hln z1 HS
          have wl : IntKind.i64.wrap (ln - 1) = ln - 1 := by rw [IntKind.wrap_i64]; omega
          have l1 : (0 : Int) ≤ ln - 1 := by omega
          have l0 : (1 : Int) ≤ ln := by omega
          have l2 : ln - 1 < 33 := by omega
          clear hs z3 eln
          go_wp2_with fail
          refine wp_region_held_drew (S := fun w' => w'.cell? ⟨b, o + j * 2, none⟩ = some (.int .i64 c) ∧ w'.cell? ⟨b, o + j * 2 + 1, none⟩ = some (.int .i64 v)) (by kernel_rfl) ⟨q1, q2⟩ fun hS0 => ?_
          refine take_first 0 (v := .slice (some ⟨b, o, none⟩) A.length cp) rfl (by kernel_rfl) (by kernel_rfl) (by kernel_rfl) (fun _ _ _ h => h) rfl (fun W' hW' => by go_simp) hS0 ?_
          refine take_first 1 (v := .int .i64 j) rfl (by kernel_rfl) (by kernel_rfl) (by kernel_rfl) (fun _ _ _ h => h) rfl (fun W' hW' => by go_simp) hS0 ?_
          refine take_first 2 (v := .pointer (some ⟨b, o + j * 2, none⟩)) rfl (by kernel_rfl) (by kernel_rfl) (by kernel_rfl) (fun _ _ _ h => h) rfl (fun W' hW' => by go_simp) hS0 ?_
          refine take_first 3 (v := .pointer (some ⟨b, o + j * 2, none⟩)) rfl (by kernel_rfl) (by kernel_rfl) (by kernel_rfl) (fun _ _ _ h => h) rfl (fun W' hW' => by go_simp) hS0 ?_
          refine take_first 4 (v := .int .i64 c) rfl (by kernel_rfl) (by kernel_rfl) (by kernel_rfl) (fun _ _ _ h => h) rfl (fun W' hW' => by have e0 := hW'.1; go_simp) hS0 ?_
          refine take_first 7 (v := .slice (some ⟨b, o, none⟩) A.length cp) rfl (by kernel_rfl) (by kernel_rfl) (by kernel_rfl) (fun _ _ _ h => h) rfl (fun W' hW' => by go_simp) hS0 ?_
          refine take_first 8 (v := .int .i64 j) rfl (by kernel_rfl) (by kernel_rfl) (by kernel_rfl) (fun _ _ _ h => h) rfl (fun W' hW' => by go_simp) hS0 ?_
          refine take_first 9 (v := .pointer (some ⟨b, o + j * 2, none⟩)) rfl (by kernel_rfl) (by kernel_rfl) (by kernel_rfl) (fun _ _ _ h => h) rfl (fun W' hW' => by go_simp) hS0 ?_
          refine take_first 10 (v := .pointer (some ⟨b, o + j * 2 + 1, none⟩)) rfl (by kernel_rfl) (by kernel_rfl) (by kernel_rfl) (fun _ _ _ h => h) rfl (fun W' hW' => by go_simp) hS0 ?_
          refine take_first 11 (v := .int .i64 v) rfl (by kernel_rfl) (by kernel_rfl) (by kernel_rfl) (fun _ _ _ h => h) rfl (fun W' hW' => by have e0 := hW'.2; go_simp) hS0 ?_
          refine take_first 12 (v := .pointer (some ⟨w1.heap.size, 0, none⟩)) rfl (by kernel_rfl) (by kernel_rfl) (by kernel_rfl) (fun _ _ _ h => h) rfl (fun W' hW' => by go_simp) hS0 ?_
          refine one_next 5 (by kernel_rfl) rfl rfl fun K5 hK5 => ?_
          have HK5 := Lib.hid hK5
          clear hK5
          go_simp
          refine (KL.out _).mono ?_
          rintro e w2 ⟨rfl, b2⟩
          have g2 : wr.grownBy w2 none := grown_trans (grown_drew (grown_refl _ _)) (grown_of_below b2)
          have p1 := ((below_of_grown0 g2).cell (p := ⟨b, o + j * 2, none⟩) (show b < wr.heap.size by omega)).trans q1
          have p2 := ((below_of_grown0 g2).cell (p := ⟨b, o + j * 2 + 1, none⟩) (show b < wr.heap.size by omega)).trans q2
          refine HK5.out _ _ ⟨p1, p2⟩ ?_
          refine take_first 6 (v := .int .i64 (ln - 1)) rfl (by kernel_rfl) (by kernel_rfl) (by kernel_rfl) (fun _ _ _ h => h) rfl (fun W' hW' => by go_simp) ⟨p1, p2⟩ ?_
          refine take_first 13 (v := .pointer (some ⟨w1.heap.size, ln.toNat - 1, none⟩)) rfl (by kernel_rfl) (by kernel_rfl) (by kernel_rfl) (fun _ _ _ h => h) rfl (fun W' hW' => by go_simp) ⟨p1, p2⟩ ?_
          refine one_next 14 (by kernel_rfl) rfl rfl fun K14 hK14 => ?_
          have HK14 := Lib.hid hK14
          clear hK14
          have kb2 := hkb.below (below_of_grown0 g2) hkl
          have kL := kb2.cell' (ln.toNat - 1) (lvC_at l (by omega))
          have fL := kb2.frozen (ln.toNat - 1)
          go_simp
          refine HK14.out _ _ ⟨(World.cell?_setCell_far w2 ⟨w1.heap.size, ln.toNat - 1, none⟩ ⟨b, o + j * 2, none⟩ _ (show w1.heap.size ≠ b by omega)).trans p1, (World.cell?_setCell_far w2 ⟨w1.heap.size, ln.toNat - 1, none⟩ ⟨b, o + j * 2 + 1, none⟩ _ (show w1.heap.size ≠ b by omega)).trans p2⟩ ?_
          refine wpAnyH_done (by kernel_rfl) ?_ _
          have fin := kb2.put (ln.toNat - 1) (.int .i64 v)
          rw [lvC_set l (by omega)] at fin
          have bfin := (bel.trans ((below_of_grown0 g2).mono hszr)).setCell (p := ⟨w1.heap.size, ln.toNat - 1, none⟩) (Nat.le_refl _) (.int .i64 v)
          have e1 : (ln - 1).toNat = ln.toNat - 1 := by omega
          have HS2 : Hid (scanA (A.drop (j + 1)) (updB S (c - 65).toNat) (updC l (ln.toNat - 1) v) = scanA A (fun _ => false) (fun _ => 0)) := by
            refine Lib.hid ?_
            rw [← e1]
            exact HS.out
          clear HS kb2 kL fL p1 p2 g2 b2
          go_simp
          go_wp2_with fail
          go_roundw
          case rel => exact ⟨j + 1, _, _, hlt, by go_num, fin, HS2.out, bfin⟩
          case measure => simp [intOf]; omega
        · obtain rfl : j = A.length := by omega
          rw [List.drop_length] at hs
          have hs' : scanA A (fun _ => false) (fun _ => 0) = (0, l) := hs.symm
          obtain ⟨j0, hi, hz0, hz1, hz2⟩ := info_parts rinfoLevel
          have hst : RAt wr.drew base s g cap n V C := RAt.drewN (h1.below bel) 1
          have szd : wr.drew.heap.size = wr.heap.size := rfl
          have bW0 : Below wr.heap.size wr wr.drew := (Below.refl _ _).drew
          have hs1 := h1.1.lt
          have hbg := h1.baseg
          go_wp2_with fail
          have hS0 : wr.drew.cell? ⟨s, 0, none⟩ = some (.slice (some ⟨g, 0, none⟩) n cap) ∧ Blk wr.drew w1.heap.size 71 (lvC l) := ⟨(hst.1.cell 0).trans (stC_zero _ _), hkb.drew⟩
          refine region_E (fun w' => w'.cell? ⟨s, 0, none⟩ = some (.slice (some ⟨g, 0, none⟩) n cap) ∧ Blk w' w1.heap.size 71 (lvC l)) 12 (by kernel_rfl) ?_
          refine take_E 0 (v := .pointer (some ⟨s, 0, none⟩)) rfl (by kernel_rfl) (by kernel_rfl) (by kernel_rfl) (by kernel_rfl) (fun _ _ _ h => h) rfl (fun W' hW' => by go_simp) hS0 ?_
          refine take_E 2 (v := .pointer (some ⟨s, 0, none⟩)) rfl (by kernel_rfl) (by kernel_rfl) (by kernel_rfl) (by kernel_rfl) (fun _ _ _ h => h) rfl (fun W' hW' => by go_simp) hS0 ?_
          refine take_E 3 (v := .pointer (some ⟨s, 0, none⟩)) rfl (by kernel_rfl) (by kernel_rfl) (by kernel_rfl) (by kernel_rfl) (fun _ _ _ h => h) rfl (fun W' hW' => by go_simp) hS0 ?_
          refine take_E 4 (v := .pointer (some ⟨s, 0, none⟩)) rfl (by kernel_rfl) (by kernel_rfl) (by kernel_rfl) (by kernel_rfl) (fun _ _ _ h => h) rfl (fun W' hW' => by go_simp) hS0 ?_
          refine take_E 5 (v := (.slice (some ⟨g, 0, none⟩) n cap)) rfl (by kernel_rfl) (by kernel_rfl) (by kernel_rfl) (by kernel_rfl) (fun _ _ _ h => h) rfl (fun W' hW' => by have e0 := hW'.1; go_simp) hS0 ?_
          refine take_E 7 (v := .agg (lvC l)) rfl (by kernel_rfl) (by kernel_rfl) (by kernel_rfl) (by kernel_rfl) (fun _ _ _ h => h) rfl (fun W' hW' => by exact exec_row 71 (.tmp 6) rfl ⟨w1.heap.size, 0, none⟩ _ (by go_simp) (run_loadAt_mid _ w1.heap.size 0 71 (lvC l).toList _ (fun k x hx => (hW'.2.cell' (0 + k) (by simpa using hx))) Tryd.underlying71 rfl (by kernel_rfl))) hS0 ?_
          refine two_E 1 8 (by kernel_rfl) rfl rfl rfl rfl (fun K1 hK1 => ?_) (fun K8 hK8 => ?_)
          · skip
            have sz1 : (wr.alloc (.cells #[] 71)).drew.heap.size = wr.drew.heap.size + 1 := by show (wr.drew.alloc (.cells #[] 71)).heap.size = _; simp
            have hnil1 : ((wr.alloc (.cells #[] 71)).drew).ownsRow base 71 33 (.slice (some ⟨wr.drew.heap.size, 0, none⟩) 0 0) 0 [] := by have q := World.ownsRow_made (base := base) (e := 71) (size := 33) wr.drew #[] 0 (by have := hst.baseg; omega) (by decide) (by simp); exact q
            have st1 : RAt (wr.alloc (.cells #[] 71)).drew base s g cap n V C := hst.alloc (.cells #[] 71)
            have kl1 : Blk (wr.alloc (.cells #[] 71)).drew w1.heap.size 71 (lvC l) := hkb.drew.alloc (.cells #[] 71)
            have bW1 : Below wr.heap.size wr (wr.alloc (.cells #[] 71)).drew := bW0.alloc (bW0.size) (.cells #[] 71)
            have HK1 := Lib.hid hK1
            clear hK1
            go_simp
            refine HK1.out _ _ (fun _ => ⟨(st1.1.cell 0).trans (stC_zero _ _), kl1⟩) ?_
            refine two_E 6 8 (by kernel_rfl) rfl rfl rfl rfl (fun K6 hK6 => ?_) (fun K8 hK8 => ?_)
            · skip
              have hlen6 := st1.len
              refine wp_append_lies _ (.tmp 37) (.tmp 41) 65 rfl base 71 j0 (.agg (List.replicate 33 (Value.int .i64 0)).toArray) 33 264 Tryd.underlying65 hi hz0 hz1 hz2 (by kernel_rfl) (by decide) (.slice (some ⟨wr.drew.heap.size, 0, none⟩) 0 0) 0 [] (by with_unfolding_all rfl) hnil1 ⟨g, 0, none⟩ n cap (V.map (Value.int .i64)) (by with_unfolding_all rfl) (by rw [List.length_map, hlen6]) (st1.2.1.cells rfl) (by intro u hu'; obtain ⟨z, _, rfl⟩ := List.mem_map.1 hu'; rfl) (by omega) (by unfold maxLen; omega) (by omega) (by have := st1.baseg; omega) _ rfl ?_
              intro g6 c6 W6 hown6 hgrow6 hat6 hlt6
              rw [Nat.zero_add, List.nil_append] at hown6
              rw [Nat.zero_add]
              have hg6 : wr.heap.size ≤ g6 := by have := bW1.size; rcases hat6 with e | e; (have e' : some (wr.drew.heap.size) = some g6 := e; have := Option.some.inj e'; omega); omega
              have st6 := st1.grown hgrow6 (fun e => by have e' : some s = some (wr.drew.heap.size) := e; have := Option.some.inj e'; omega) (fun e => by have e' : some g = some (wr.drew.heap.size) := e; have := Option.some.inj e'; omega)
              have kl6 := kl1.grown hgrow6 (fun e => by have e' : some w1.heap.size = some (wr.drew.heap.size) := e; have := Option.some.inj e'; omega)
              have bW6 := bW1.grown hgrow6 (bW1.size) (fun q e => by have e' : some (wr.drew.heap.size) = some q := e; have := Option.some.inj e'; have := bW1.size; omega)
              refine hK6 _ _ (fun _ => ⟨(st6.1.cell 0).trans (stC_zero _ _), kl6⟩) ?_
              refine one_E 8 (by kernel_rfl) rfl rfl fun K8 hK8 => ?_
              have sz8 : (W6.alloc (.cells (lvC l) 71)).heap.size = W6.heap.size + 1 := by simp
              have gr8 := Blk.new W6 71 (lvC l)
              have st8 := st6.alloc (.cells (lvC l) 71)
              have kl8 := kl6.alloc (.cells (lvC l) 71)
              have bW8 := bW6.alloc (bW6.size) (.cells (lvC l) 71)
              refine wp_rlevel1 (.tmp 43) l rfl (by with_unfolding_all rfl) ?_
              refine hK8 _ _ (fun _ => ⟨(st8.1.cell 0).trans (stC_zero _ _), kl8⟩) ?_
              refine one_E 9 (by kernel_rfl) rfl rfl fun K9 hK9 => ?_
              refine wp_append_lies _ (.tmp 42) (.tmp 44) 65 rfl base 71 j0 (.agg (List.replicate 33 (Value.int .i64 0)).toArray) 33 264 Tryd.underlying65 hi hz0 hz1 hz2 (by kernel_rfl) (by decide) (.slice (some ⟨g6, 0, none⟩) n c6) n _ (by with_unfolding_all rfl) (hown6.alloc _) ⟨W6.heap.size, 0, none⟩ 1 1 (lvC l).toList (by with_unfolding_all rfl) (by rw [Array.length_toList, lvC_size]) (rlv_made _ _ _ (gr8)) (lv_one _) (by omega) (by unfold maxLen; omega) (by omega) (by have := (st8).baseg; omega) _ rfl ?_
              intro g9 c9 W9 hown9 hgrow9 hat9 hlt9
              have bWs := (bW8).size
              have hg9 : wr.heap.size ≤ g9 := by rcases hat9 with e | e; (have e' : some g6 = some g9 := e; have := Option.some.inj e'; omega); omega
              have st9 := (st8).grown hgrow9 (fun e => by have e' : some s = some g6 := e; have := Option.some.inj e'; omega) (fun e => by have e' : some g = some g6 := e; have := Option.some.inj e'; omega)
              have kl9 := (kl8).grown hgrow9 (fun e => by have e' : some w1.heap.size = some g6 := e; have := Option.some.inj e'; omega)
              have bW9 := (bW8).grown hgrow9 bWs (fun q e => by have e' : some g6 = some q := e; have := Option.some.inj e'; omega)
              have c9' := (st9.1.cell 0).trans (stC_zero _ _)
              have f9 := st9.1.frozen 0
              refine hK9 _ _ (fun _ => ⟨c9', kl9⟩) ?_
              refine one_E 10 (by kernel_rfl) rfl rfl fun K10 hK10 => ?_
              have HK10 := Lib.hid hK10
              clear hK10
              go_simp
              refine HK10.out _ _ (fun x => ⟨c9', kl9⟩) ?_
              refine one_E 11 (by kernel_rfl) rfl rfl fun K11 hK11 => ?_
              have HK11 := Lib.hid hK11
              clear hK11
              go_simp
              refine HK11.out _ _ (fun x => ⟨c9', kl9⟩) ?_
              refine one_E 12 (by kernel_rfl) rfl rfl fun K12 hK12 => ?_
              have HK12 := Lib.hid hK12
              clear hK12
              go_simp
              refine HK12.out _ _ (fun x => absurd rfl x) ?_
              refine done_E (by kernel_rfl) ?_ _
              have kst := st9.1.put 0 (.slice (some ⟨g9, 0, none⟩) (n + 1) c9)
              rw [stC_lv] at kst
              have hon := hown9.kept (grown_setCell (p := ⟨s, 0, none⟩) (grown_refl W9 (some s)) (.inl rfl) (.slice (some ⟨g9, 0, none⟩) (n + 1) c9)) (.inr fun e => by have e' : some g9 = some s := e; have := Option.some.inj e'; omega)
              have hfin : RAt (W9.setCell ⟨s, 0, none⟩ (.slice (some ⟨g9, 0, none⟩) (n + 1) c9)) base s g9 c9 (n + 1) (V ++ (List.range 33).map l) C := ⟨kst, by rw [List.map_append, lv_map]; exact hon, by omega, h.2.2.2.1, by omega, by omega⟩
              have bAll := (b1.trans (bel.mono b1.size)).trans (bW9.mono (by have := b1.size; omega))
              have honly : Only s g w (W9.setCell ⟨s, 0, none⟩ (.slice (some ⟨g9, 0, none⟩) (n + 1) c9)) := ⟨bAll.os, bAll.tape, bAll.output, by have := bAll.size; simpa [World.setCell] using this, fun b hb h1 h2 => (Below.heap_setCell _ _ _ b (fun e => h1 e)).trans (bAll.block b hb)⟩
              clear hgrow9 hown9 st9 kl9
              go_simp
              go_wp2_with fail
              go_ret
              exact rpush_fin hs' h9 honly (by have := b1.size; have := bel.size; omega) hfin
            · skip
              have sz8 : ((wr.alloc (.cells #[] 71)).drew.alloc (.cells (lvC l) 71)).heap.size = (wr.alloc (.cells #[] 71)).drew.heap.size + 1 := by simp
              have gr8 := Blk.new (wr.alloc (.cells #[] 71)).drew 71 (lvC l)
              have st8 := st1.alloc (.cells (lvC l) 71)
              have kl8 := kl1.alloc (.cells (lvC l) 71)
              have bW8 := bW1.alloc (bW1.size) (.cells (lvC l) 71)
              refine wp_rlevel1 (.tmp 43) l rfl (by with_unfolding_all rfl) ?_
              refine hK8 _ _ (fun _ => ⟨(st8.1.cell 0).trans (stC_zero _ _), kl8⟩) ?_
              refine one_E 6 (by kernel_rfl) rfl rfl fun K6 hK6 => ?_
              have hlen6 := st8.len
              refine wp_append_lies _ (.tmp 37) (.tmp 41) 65 rfl base 71 j0 (.agg (List.replicate 33 (Value.int .i64 0)).toArray) 33 264 Tryd.underlying65 hi hz0 hz1 hz2 (by kernel_rfl) (by decide) (.slice (some ⟨wr.drew.heap.size, 0, none⟩) 0 0) 0 [] (by with_unfolding_all rfl) (hnil1.alloc _) ⟨g, 0, none⟩ n cap (V.map (Value.int .i64)) (by with_unfolding_all rfl) (by rw [List.length_map, hlen6]) (st8.2.1.cells rfl) (by intro u hu'; obtain ⟨z, _, rfl⟩ := List.mem_map.1 hu'; rfl) (by omega) (by unfold maxLen; omega) (by omega) (by have := st8.baseg; omega) _ rfl ?_
              intro g6 c6 W6 hown6 hgrow6 hat6 hlt6
              rw [Nat.zero_add, List.nil_append] at hown6
              rw [Nat.zero_add]
              have hg6 : wr.heap.size ≤ g6 := by have := bW8.size; rcases hat6 with e | e; (have e' : some (wr.drew.heap.size) = some g6 := e; have := Option.some.inj e'; omega); omega
              have st6 := st8.grown hgrow6 (fun e => by have e' : some s = some (wr.drew.heap.size) := e; have := Option.some.inj e'; omega) (fun e => by have e' : some g = some (wr.drew.heap.size) := e; have := Option.some.inj e'; omega)
              have kl6 := kl8.grown hgrow6 (fun e => by have e' : some w1.heap.size = some (wr.drew.heap.size) := e; have := Option.some.inj e'; omega)
              have bW6 := bW8.grown hgrow6 (bW8.size) (fun q e => by have e' : some (wr.drew.heap.size) = some q := e; have := Option.some.inj e'; have := bW8.size; omega)
              refine hK6 _ _ (fun _ => ⟨(st6.1.cell 0).trans (stC_zero _ _), kl6⟩) ?_
              refine one_E 9 (by kernel_rfl) rfl rfl fun K9 hK9 => ?_
              refine wp_append_lies _ (.tmp 42) (.tmp 44) 65 rfl base 71 j0 (.agg (List.replicate 33 (Value.int .i64 0)).toArray) 33 264 Tryd.underlying65 hi hz0 hz1 hz2 (by kernel_rfl) (by decide) (.slice (some ⟨g6, 0, none⟩) n c6) n _ (by with_unfolding_all rfl) (hown6) ⟨(wr.alloc (.cells #[] 71)).drew.heap.size, 0, none⟩ 1 1 (lvC l).toList (by with_unfolding_all rfl) (by rw [Array.length_toList, lvC_size]) (rlv_made _ _ _ (gr8.grown hgrow6 (fun e => by have e' : some ((wr.alloc (.cells #[] 71)).drew.heap.size) = some (wr.drew.heap.size) := e; have := Option.some.inj e'; simp at this))) (lv_one _) (by omega) (by unfold maxLen; omega) (by omega) (by have := (st6).baseg; omega) _ rfl ?_
              intro g9 c9 W9 hown9 hgrow9 hat9 hlt9
              have bWs := (bW6).size
              have hg9 : wr.heap.size ≤ g9 := by rcases hat9 with e | e; (have e' : some g6 = some g9 := e; have := Option.some.inj e'; omega); omega
              have st9 := (st6).grown hgrow9 (fun e => by have e' : some s = some g6 := e; have := Option.some.inj e'; omega) (fun e => by have e' : some g = some g6 := e; have := Option.some.inj e'; omega)
              have kl9 := (kl6).grown hgrow9 (fun e => by have e' : some w1.heap.size = some g6 := e; have := Option.some.inj e'; omega)
              have bW9 := (bW6).grown hgrow9 bWs (fun q e => by have e' : some g6 = some q := e; have := Option.some.inj e'; omega)
              have c9' := (st9.1.cell 0).trans (stC_zero _ _)
              have f9 := st9.1.frozen 0
              refine hK9 _ _ (fun _ => ⟨c9', kl9⟩) ?_
              refine one_E 10 (by kernel_rfl) rfl rfl fun K10 hK10 => ?_
              have HK10 := Lib.hid hK10
              clear hK10
              go_simp
              refine HK10.out _ _ (fun x => ⟨c9', kl9⟩) ?_
              refine one_E 11 (by kernel_rfl) rfl rfl fun K11 hK11 => ?_
              have HK11 := Lib.hid hK11
              clear hK11
              go_simp
              refine HK11.out _ _ (fun x => ⟨c9', kl9⟩) ?_
              refine one_E 12 (by kernel_rfl) rfl rfl fun K12 hK12 => ?_
              have HK12 := Lib.hid hK12
              clear hK12
              go_simp
              refine HK12.out _ _ (fun x => absurd rfl x) ?_
              refine done_E (by kernel_rfl) ?_ _
              have kst := st9.1.put 0 (.slice (some ⟨g9, 0, none⟩) (n + 1) c9)
              rw [stC_lv] at kst
              have hon := hown9.kept (grown_setCell (p := ⟨s, 0, none⟩) (grown_refl W9 (some s)) (.inl rfl) (.slice (some ⟨g9, 0, none⟩) (n + 1) c9)) (.inr fun e => by have e' : some g9 = some s := e; have := Option.some.inj e'; omega)
              have hfin : RAt (W9.setCell ⟨s, 0, none⟩ (.slice (some ⟨g9, 0, none⟩) (n + 1) c9)) base s g9 c9 (n + 1) (V ++ (List.range 33).map l) C := ⟨kst, by rw [List.map_append, lv_map]; exact hon, by omega, h.2.2.2.1, by omega, by omega⟩
              have bAll := (b1.trans (bel.mono b1.size)).trans (bW9.mono (by have := b1.size; omega))
              have honly : Only s g w (W9.setCell ⟨s, 0, none⟩ (.slice (some ⟨g9, 0, none⟩) (n + 1) c9)) := ⟨bAll.os, bAll.tape, bAll.output, by have := bAll.size; simpa [World.setCell] using this, fun b hb h1 h2 => (Below.heap_setCell _ _ _ b (fun e => h1 e)).trans (bAll.block b hb)⟩
              clear hgrow9 hown9 st9 kl9
              go_simp
              go_wp2_with fail
              go_ret
              exact rpush_fin hs' h9 honly (by have := b1.size; have := bel.size; omega) hfin
          · skip
            have sz8 : (wr.drew.alloc (.cells (lvC l) 71)).heap.size = wr.drew.heap.size + 1 := by simp
            have gr8 := Blk.new wr.drew 71 (lvC l)
            have st8 := hst.alloc (.cells (lvC l) 71)
            have kl8 := hkb.drew.alloc (.cells (lvC l) 71)
            have bW8 := bW0.alloc (bW0.size) (.cells (lvC l) 71)
            refine wp_rlevel1 (.tmp 43) l rfl (by with_unfolding_all rfl) ?_
            refine hK8 _ _ (fun _ => ⟨(st8.1.cell 0).trans (stC_zero _ _), kl8⟩) ?_
            refine one_E 1 (by kernel_rfl) rfl rfl fun K1 hK1 => ?_
            have sz1 : ((wr.alloc (.cells (lvC l) 71)).alloc (.cells #[] 71)).drew.heap.size = (wr.drew.alloc (.cells (lvC l) 71)).heap.size + 1 := by show ((wr.drew.alloc (.cells (lvC l) 71)).alloc (.cells #[] 71)).heap.size = _; simp
            have hnil1 : (((wr.alloc (.cells (lvC l) 71)).alloc (.cells #[] 71)).drew).ownsRow base 71 33 (.slice (some ⟨(wr.heap.size + 1), 0, none⟩) 0 0) 0 [] := by have q := World.ownsRow_made (base := base) (e := 71) (size := 33) (wr.drew.alloc (.cells (lvC l) 71)) #[] 0 (by have := st8.baseg; omega) (by decide) (by simp); rw [World.size_alloc] at q; exact q
            have st1 : RAt ((wr.alloc (.cells (lvC l) 71)).alloc (.cells #[] 71)).drew base s g cap n V C := st8.alloc (.cells #[] 71)
            have kl1 : Blk ((wr.alloc (.cells (lvC l) 71)).alloc (.cells #[] 71)).drew w1.heap.size 71 (lvC l) := kl8.alloc (.cells #[] 71)
            have bW1 : Below wr.heap.size wr ((wr.alloc (.cells (lvC l) 71)).alloc (.cells #[] 71)).drew := bW8.alloc (bW8.size) (.cells #[] 71)
            have HK1 := Lib.hid hK1
            clear hK1
            go_simp
            refine HK1.out _ _ (fun _ => ⟨(st1.1.cell 0).trans (stC_zero _ _), kl1⟩) ?_
            refine one_E 6 (by kernel_rfl) rfl rfl fun K6 hK6 => ?_
            have hlen6 := st1.len
            refine wp_append_lies _ (.tmp 37) (.tmp 41) 65 rfl base 71 j0 (.agg (List.replicate 33 (Value.int .i64 0)).toArray) 33 264 Tryd.underlying65 hi hz0 hz1 hz2 (by kernel_rfl) (by decide) (.slice (some ⟨(wr.heap.size + 1), 0, none⟩) 0 0) 0 [] (by with_unfolding_all rfl) hnil1 ⟨g, 0, none⟩ n cap (V.map (Value.int .i64)) (by with_unfolding_all rfl) (by rw [List.length_map, hlen6]) (st1.2.1.cells rfl) (by intro u hu'; obtain ⟨z, _, rfl⟩ := List.mem_map.1 hu'; rfl) (by omega) (by unfold maxLen; omega) (by omega) (by have := st1.baseg; omega) _ rfl ?_
            intro g6 c6 W6 hown6 hgrow6 hat6 hlt6
            rw [Nat.zero_add, List.nil_append] at hown6
            rw [Nat.zero_add]
            have hg6 : wr.heap.size ≤ g6 := by have := bW1.size; rcases hat6 with e | e; (have e' : some ((wr.heap.size + 1)) = some g6 := e; have := Option.some.inj e'; omega); omega
            have st6 := st1.grown hgrow6 (fun e => by have e' : some s = some ((wr.heap.size + 1)) := e; have := Option.some.inj e'; omega) (fun e => by have e' : some g = some ((wr.heap.size + 1)) := e; have := Option.some.inj e'; omega)
            have kl6 := kl1.grown hgrow6 (fun e => by have e' : some w1.heap.size = some ((wr.heap.size + 1)) := e; have := Option.some.inj e'; omega)
            have bW6 := bW1.grown hgrow6 (bW1.size) (fun q e => by have e' : some ((wr.heap.size + 1)) = some q := e; have := Option.some.inj e'; have := bW1.size; omega)
            refine hK6 _ _ (fun _ => ⟨(st6.1.cell 0).trans (stC_zero _ _), kl6⟩) ?_
            refine one_E 9 (by kernel_rfl) rfl rfl fun K9 hK9 => ?_
            refine wp_append_lies _ (.tmp 42) (.tmp 44) 65 rfl base 71 j0 (.agg (List.replicate 33 (Value.int .i64 0)).toArray) 33 264 Tryd.underlying65 hi hz0 hz1 hz2 (by kernel_rfl) (by decide) (.slice (some ⟨g6, 0, none⟩) n c6) n _ (by with_unfolding_all rfl) (hown6) ⟨wr.drew.heap.size, 0, none⟩ 1 1 (lvC l).toList (by with_unfolding_all rfl) (by rw [Array.length_toList, lvC_size]) (rlv_made _ _ _ ((gr8.alloc _).grown hgrow6 (fun e => by have e' : some (wr.drew.heap.size) = some ((wr.heap.size + 1)) := e; have := Option.some.inj e'; simp at this))) (lv_one _) (by omega) (by unfold maxLen; omega) (by omega) (by have := (st6).baseg; omega) _ rfl ?_
            intro g9 c9 W9 hown9 hgrow9 hat9 hlt9
            have bWs := (bW6).size
            have hg9 : wr.heap.size ≤ g9 := by rcases hat9 with e | e; (have e' : some g6 = some g9 := e; have := Option.some.inj e'; omega); omega
            have st9 := (st6).grown hgrow9 (fun e => by have e' : some s = some g6 := e; have := Option.some.inj e'; omega) (fun e => by have e' : some g = some g6 := e; have := Option.some.inj e'; omega)
            have kl9 := (kl6).grown hgrow9 (fun e => by have e' : some w1.heap.size = some g6 := e; have := Option.some.inj e'; omega)
            have bW9 := (bW6).grown hgrow9 bWs (fun q e => by have e' : some g6 = some q := e; have := Option.some.inj e'; omega)
            have c9' := (st9.1.cell 0).trans (stC_zero _ _)
            have f9 := st9.1.frozen 0
            refine hK9 _ _ (fun _ => ⟨c9', kl9⟩) ?_
            refine one_E 10 (by kernel_rfl) rfl rfl fun K10 hK10 => ?_
            have HK10 := Lib.hid hK10
            clear hK10
            go_simp
            refine HK10.out _ _ (fun x => ⟨c9', kl9⟩) ?_
            refine one_E 11 (by kernel_rfl) rfl rfl fun K11 hK11 => ?_
            have HK11 := Lib.hid hK11
            clear hK11
            go_simp
            refine HK11.out _ _ (fun x => ⟨c9', kl9⟩) ?_
            refine one_E 12 (by kernel_rfl) rfl rfl fun K12 hK12 => ?_
            have HK12 := Lib.hid hK12
            clear hK12
            go_simp
            refine HK12.out _ _ (fun x => absurd rfl x) ?_
            refine done_E (by kernel_rfl) ?_ _
            have kst := st9.1.put 0 (.slice (some ⟨g9, 0, none⟩) (n + 1) c9)
            rw [stC_lv] at kst
            have hon := hown9.kept (grown_setCell (p := ⟨s, 0, none⟩) (grown_refl W9 (some s)) (.inl rfl) (.slice (some ⟨g9, 0, none⟩) (n + 1) c9)) (.inr fun e => by have e' : some g9 = some s := e; have := Option.some.inj e'; omega)
            have hfin : RAt (W9.setCell ⟨s, 0, none⟩ (.slice (some ⟨g9, 0, none⟩) (n + 1) c9)) base s g9 c9 (n + 1) (V ++ (List.range 33).map l) C := ⟨kst, by rw [List.map_append, lv_map]; exact hon, by omega, h.2.2.2.1, by omega, by omega⟩
            have bAll := (b1.trans (bel.mono b1.size)).trans (bW9.mono (by have := b1.size; omega))
            have honly : Only s g w (W9.setCell ⟨s, 0, none⟩ (.slice (some ⟨g9, 0, none⟩) (n + 1) c9)) := ⟨bAll.os, bAll.tape, bAll.output, by have := bAll.size; simpa [World.setCell] using this, fun b hb h1 h2 => (Below.heap_setCell _ _ _ b (fun e => h1 e)).trans (bAll.block b hb)⟩
            clear hgrow9 hown9 st9 kl9
            go_simp
            go_wp2_with fail
            go_ret
            exact rpush_fin hs' h9 honly (by have := b1.size; have := bel.size; omega) hfin
    · have d0 : ((scanA A (fun _ => false) (fun _ => 0)).1 != 0) = true := by simp; exact he
      go_wp2_with fail
      go_ret
      exact ⟨fun e => absurd e h9, fun _ => ⟨rfl, only_of_below b1, fun _ => h.below b1, fun e => absurd e he⟩⟩
end Go.Proofs.YtdbhkpkndfhcoaaDoor
