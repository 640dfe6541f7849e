/-
  cncref13.half, InSweep, Inside; least, most. Small numbers.
  cncref13.Inside; least, most.
-/
import Derived.Test.YtefdjdipbnnoaaaGreatDoorRArcC17
import Derived.Test.YtefdjdipbnnoaaaGreatDoorGeo17
import Derived.Test.YtefdjdipbnnoaaaGreatDoorBox17
import Derived.Test.YtefdjdipbnnoaaaGreatDoorBase17
namespace Go.Proofs.YtefdjdipbnnoaaaGreatDoor
open Go Go.RowKit
set_option linter.unusedVariables false
set_option linter.unusedSimpArgs false

/-- Three directions in memory. -/
structure TriS (w : World) (au aw bu bw pu pw : Int) (W : World) : Prop where
  a : Blk W w.heap.size 88 #[.int .i64 au, .int .i64 aw]
  b : Blk W (w.heap.size + 1) 88 #[.int .i64 bu, .int .i64 bw]
  p : Blk W (w.heap.size + 1 + 1) 88 #[.int .i64 pu, .int .i64 pw]
  bel : Below w.heap.size w W
theorem TriS.below {w W W' : World} {au aw bu bw pu pw : Int} (h : TriS w au aw bu bw pu pw W) (b : Below W.heap.size W W') : TriS w au aw bu bw pu pw W' :=
  ⟨h.a.below b h.a.lt, h.b.below b h.b.lt, h.p.below b h.p.lt, h.bel.trans (b.mono h.bel.size)⟩
theorem crs_bd {a b c d : Int} (h1 : Sm a) (h2 : Sm b) (h3 : Sm c) (h4 : Sm d) : -4000000000000000000 ≤ crs a b c d ∧ crs a b c d ≤ 4000000000000000000 := by
  have m1 := mul_bd (B := 1000000000) (by decide) h1 h4
  have m2 := mul_bd (B := 1000000000) (by decide) h2 h3
  unfold crs
  omega
set_option maxRecDepth 100000 in
theorem rhalf_any (au aw pu pw d : Int) (hd : d = 1 ∨ d = -1) (h1 : Sm au) (h2 : Sm aw) (h3 : Sm pu) (h4 : Sm pw) (w : World) : Calls Tryz.prog 121 #[.agg #[.int .i64 au, .int .i64 aw], .agg #[.int .i64 pu, .int .i64 pw], .int .i64 d] w fun e w' => e = .returned (.int .i64 (rhalfV au aw pu pw d)) ∧ Below w.heap.size w w' := by
  have KX := Lib.hid (fun W => rcross_any au aw pu pw h1 h2 h3 h4 W)
  have KI := Lib.hid (fun W => rinner_any au aw pu pw h1 h2 h3 h4 W)
  have hcb := crs_bd h1 h2 h3 h4
  unfold rhalfV
  obtain ⟨c, hc⟩ : ∃ c, crs au aw pu pw = c := ⟨_, rfl⟩
  obtain ⟨n, hn⟩ : ∃ c, inn au aw pu pw = c := ⟨_, rfl⟩
  rw [hc] at KX hcb ⊢
  rw [hn] at KI ⊢
  obtain ⟨y, hy⟩ : ∃ y, c * d = y := ⟨_, rfl⟩
  have hyb : -4000000000000000000 ≤ y ∧ y ≤ 4000000000000000000 := by rw [← hy]; rcases hd with rfl | rfl <;> omega
  have hw : IntKind.i64.wrap (c * d) = y := by rw [hy, IntKind.wrap_i64]; omega
  rw [hy]
  clear hc hn h1 h2 h3 h4 hy hyb hcb hd
  obtain ⟨res, hres⟩ : ∃ r : Int, (if 0 < y ∨ y = 0 ∧ 0 < n then (0 : Int) else 1) = r := ⟨_, rfl⟩
  have HRES := Lib.hid hres
  rw [hres]
  clear hres
  go_enter Tryz.func121, Tryz.ntmps121
  go_upto_region 1 with fail
  refine wp_told (fun W => Blk W w.heap.size 88 #[.int .i64 au, .int .i64 aw] ∧ Blk W (w.heap.size + 1) 88 #[.int .i64 pu, .int .i64 pw] ∧ Below w.heap.size w W) ⟨(Blk.new w _ _).alloc _, blk_new1 w _ _ _, (by (repeat (first | exact Below.refl _ _ | refine Below.drew ?_ | refine Below.alloc ?_ (by first | exact Nat.le_refl _ | (simp; done) | (simp; omega)) _)))⟩ ?_
  rintro W1 ⟨ha, hp, bel⟩
  have HA := Lib.hid ha
  have HP := Lib.hid hp
  have BEL := Lib.hid bel
  have c0 : W1.cell? ⟨w.heap.size, 0, none⟩ = some (.int .i64 au) := ha.cell' 0 rfl
  have c1 : W1.cell? ⟨w.heap.size, 1, none⟩ = some (.int .i64 aw) := ha.cell' 1 rfl
  have d0 : W1.cell? ⟨w.heap.size + 1, 0, none⟩ = some (.int .i64 pu) := hp.cell' 0 rfl
  have d1 : W1.cell? ⟨w.heap.size + 1, 1, none⟩ = some (.int .i64 pw) := hp.cell' 1 rfl
  clear ha hp bel
  go_wp2_with fail
  refine (KX.out _).mono ?_
  rintro e W2 ⟨rfl, b2⟩
  have ha2 := HA.out.below b2 HA.out.lt
  have hp2 := HP.out.below b2 HP.out.lt
  have B2 := Lib.hid (BEL.out.trans (b2.mono BEL.out.size))
  clear c0 c1 d0 d1 b2 HA HP BEL
  have c0 : W2.cell? ⟨w.heap.size, 0, none⟩ = some (.int .i64 au) := ha2.cell' 0 rfl
  have c1 : W2.cell? ⟨w.heap.size, 1, none⟩ = some (.int .i64 aw) := ha2.cell' 1 rfl
  have d0 : W2.cell? ⟨w.heap.size + 1, 0, none⟩ = some (.int .i64 pu) := hp2.cell' 0 rfl
  have d1 : W2.cell? ⟨w.heap.size + 1, 1, none⟩ = some (.int .i64 pw) := hp2.cell' 1 rfl
  clear ha2 hp2
  by_cases hp : 0 < y
  · have e1 : decide (0 < y) = true := decide_eq_true hp
    have ER : res = 0 := by rw [← HRES.out, if_pos (.inl hp)]
    subst ER
    clear hp
    go_wp2_with fail
    go_ret
    exact ⟨rfl, B2.out⟩
  · have e1 : decide (0 < y) = false := decide_eq_false hp
    by_cases h0 : y = 0
    · have e2 : (y == 0) = true := by simpa using h0
      by_cases hn : 0 < n
      · have e3 : decide (0 < n) = true := decide_eq_true hn
        have ER : res = 0 := by rw [← HRES.out, if_pos (.inr ⟨h0, hn⟩)]
        subst ER
        clear hn hp h0
        go_wp2_with fail
        refine (KI.out _).mono ?_
        rintro e W3 ⟨rfl, b3⟩
        have BF := Lib.hid (B2.out.trans (b3.mono B2.out.size))
        clear b3
        go_wp2_with fail
        go_ret
        exact ⟨rfl, BF.out⟩
      · have e3 : decide (0 < n) = false := decide_eq_false hn
        have ER : res = 1 := by rw [← HRES.out, if_neg (by rintro (h | ⟨_, h⟩); exact hp h; exact hn h)]
        subst ER
        clear hn hp h0
        go_wp2_with fail
        refine (KI.out _).mono ?_
        rintro e W3 ⟨rfl, b3⟩
        have BF := Lib.hid (B2.out.trans (b3.mono B2.out.size))
        clear b3
        go_wp2_with fail
        go_ret
        exact ⟨rfl, BF.out⟩
    · have e2 : (y == 0) = false := by simpa using h0
      have ER : res = 1 := by rw [← HRES.out, if_neg (by rintro (h | ⟨h, _⟩); exact hp h; exact h0 h)]
      subst ER
      clear h0 hp
      go_wp2_with fail
      go_ret
      exact ⟨rfl, B2.out⟩
set_option maxRecDepth 100000 in
theorem insweep_any (au aw bu bw pu pw d : Int) (full : Bool) (hd : d = 1 ∨ d = -1) (h1 : Sm au) (h2 : Sm aw) (h3 : Sm bu) (h4 : Sm bw) (h5 : Sm pu) (h6 : Sm pw) (w : World) :
    Calls Tryz.prog 97 #[.agg #[.int .i64 au, .int .i64 aw], .agg #[.int .i64 bu, .int .i64 bw], .agg #[.int .i64 pu, .int .i64 pw], .int .i64 d, .bool full] w fun e w' => e = .returned (.bool (full || sweepV au aw bu bw pu pw d)) ∧ Below w.heap.size w w' := by
  have K1 := fun W => rhalf_any au aw pu pw d hd h1 h2 h5 h6 W
  have K2 := fun W => rhalf_any au aw bu bw d hd h1 h2 h3 h4 W
  have KX := Lib.hid (fun W => rcross_any pu pw bu bw h5 h6 h3 h4 W)
  have hcb := crs_bd h5 h6 h3 h4
  unfold sweepV
  obtain ⟨c, hc⟩ : ∃ c, crs pu pw bu bw = c := ⟨_, rfl⟩
  obtain ⟨x, hx⟩ : ∃ c, rhalfV au aw pu pw d = c := ⟨_, rfl⟩
  obtain ⟨y, hy⟩ : ∃ c, rhalfV au aw bu bw d = c := ⟨_, rfl⟩
  rw [hc] at KX hcb ⊢
  rw [hx] at K1 ⊢
  rw [hy] at K2 ⊢
  obtain ⟨v, hv⟩ : ∃ v, c * d = v := ⟨_, rfl⟩
  have hvb : -4000000000000000000 ≤ v ∧ v ≤ 4000000000000000000 := by rw [← hv]; rcases hd with rfl | rfl <;> omega
  have hw : IntKind.i64.wrap (c * d) = v := by rw [hv, IntKind.wrap_i64]; omega
  rw [hv]
  clear hc hx hy h1 h2 h3 h4 h5 h6 hv hvb hcb hd
  obtain ⟨res, hres⟩ : ∃ r : Bool, (full || (if x ≠ y then decide (x < y) else decide (0 ≤ v))) = r := ⟨_, rfl⟩
  have HRES := Lib.hid hres
  rw [hres]
  clear hres
  go_enter Tryz.func97, Tryz.ntmps97
  go_upto_region 1 with fail
  refine wp_told (fun W => TriS w au aw bu bw pu pw W) ⟨((Blk.new w _ _).alloc _).alloc _, (blk_new1 w _ _ _).alloc _, blk_new2 w _ _ _ _, (by (repeat (first | exact Below.refl _ _ | refine Below.drew ?_ | refine Below.alloc ?_ (by first | exact Nat.le_refl _ | (simp; done) | (simp; omega)) _)))⟩ ?_
  rintro W1 hs1
  cases full
  rotate_left
  · have ER : res = true := HRES.out.symm
    subst ER
    have BEL := Lib.hid hs1.bel
    clear hs1
    go_wp2_with fail
    go_ret
    exact ⟨rfl, BEL.out⟩
  go_upto_region 3 with fail
  let S : World → Prop := TriS w au aw bu bw pu pw
  have hs : S W1.drew := ⟨hs1.a.drew, hs1.b.drew, hs1.p.drew, hs1.bel.drew⟩
  have inst : Nonempty (At S) := ⟨⟨_, hs⟩⟩
  have H1 := Lib.hid (fun q : At S => (K1 q.w).mono (fun e w' h => (⟨h.1, q.ok.below h.2⟩ : e = .returned (.int .i64 x) ∧ S w')))
  have H2 := Lib.hid (fun q : At S => (K2 q.w).mono (fun e w' h => (⟨h.1, q.ok.below h.2⟩ : e = .returned (.int .i64 y) ∧ S w')))
  have L1 := Lib.hid (fun q : At S => (show (Instr.loadAt 88 (.pointer (some ⟨w.heap.size, 0, none⟩))).run Tryz.prog q.w = .ok (.agg #[.int .i64 au, .int .i64 aw]) q.w from load_of (cs := [.int .i64 au, .int .i64 aw]) q.ok.a Tryz.underlying88 rfl (by kernel_rfl)))
  have L2 := Lib.hid (fun q : At S => (show (Instr.loadAt 88 (.pointer (some ⟨w.heap.size + 1, 0, none⟩))).run Tryz.prog q.w = .ok (.agg #[.int .i64 bu, .int .i64 bw]) q.w from load_of (cs := [.int .i64 bu, .int .i64 bw]) q.ok.b Tryz.underlying88 rfl (by kernel_rfl)))
  have L3 := Lib.hid (fun q : At S => (show (Instr.loadAt 88 (.pointer (some ⟨w.heap.size + 1 + 1, 0, none⟩))).run Tryz.prog q.w = .ok (.agg #[.int .i64 pu, .int .i64 pw]) q.w from load_of (cs := [.int .i64 pu, .int .i64 pw]) q.ok.p Tryz.underlying88 rfl (by kernel_rfl)))
  have HFIN : Hid (∀ q : At S, TriS w au aw bu bw pu pw q.w) := Lib.hid (fun q : At S => q.ok)
  clear K1 K2 hs1
  clear_value S
  refine wp_region_at S (by kernel_rfl) (by kernel_rfl) hs ?_
  try simp only [List.append_eq, List.cons_append, List.nil_append]
  repeat (first
    | (go_big_quiet_want; (first
        | refine quiet_load 88 (.tmp 5) rfl _ _ rfl L1.out ?_
        | refine quiet_load 88 (.tmp 6) rfl _ _ rfl L2.out ?_
        | refine quiet_load 88 (.tmp 7) rfl _ _ rfl L3.out ?_); simp only [Act.put, List.setIfInBounds_toArray, List.set_cons_zero, List.set_cons_succ]; go_big_quiet_on)
    | go_big_quiet_step (first | with_reducible exact Calls.at_of (H1.out _) fun e w' h => ⟨h.1, h.2⟩ | with_reducible exact Calls.at_of (H2.out _) fun e w' h => ⟨h.1, h.2⟩))
  refine wpQuiet_nil ?_
  rintro _ ⟨p, rfl⟩
  have hs2 := HFIN.out p
  generalize p.w = W2 at hs2 ⊢
  clear HFIN inst hs H1 H2 L1 L2 L3
  by_cases hne : x = y
  · have e1 : (x != y) = false := by simpa using hne
    have ER : res = decide (0 ≤ v) := by rw [← HRES.out, if_neg (by simpa using hne)]; rfl
    have c0 : W2.cell? ⟨w.heap.size + 1, 0, none⟩ = some (.int .i64 bu) := hs2.b.cell' 0 rfl
    have c1 : W2.cell? ⟨w.heap.size + 1, 1, none⟩ = some (.int .i64 bw) := hs2.b.cell' 1 rfl
    have d0 : W2.cell? ⟨w.heap.size + 1 + 1, 0, none⟩ = some (.int .i64 pu) := hs2.p.cell' 0 rfl
    have d1 : W2.cell? ⟨w.heap.size + 1 + 1, 1, none⟩ = some (.int .i64 pw) := hs2.p.cell' 1 rfl
    have BEL := Lib.hid hs2.bel
    have HER := Lib.hid ER
    clear hs2 hne ER
    go_wp2_with fail
    refine (KX.out _).mono ?_
    rintro e W3 ⟨rfl, b3⟩
    have BF := Lib.hid (BEL.out.trans (b3.mono BEL.out.size))
    clear b3
    go_wp2_with fail
    go_ret
    exact ⟨by rw [HER.out]; rfl, BF.out⟩
  · have e1 : (x != y) = true := by simpa using hne
    have ER : res = decide (x < y) := by rw [← HRES.out, if_pos hne]; rfl
    have BEL := Lib.hid hs2.bel
    have HER := Lib.hid ER
    clear hs2 hne ER
    go_wp2_with fail
    go_ret
    exact ⟨by rw [HER.out]; rfl, BEL.out⟩
end Go.Proofs.YtefdjdipbnnoaaaGreatDoor

namespace Go.Proofs.YtefdjdipbnnoaaaGreatDoor
open Go Go.RowKit
set_option linter.unusedVariables false
set_option linter.unusedSimpArgs false

set_option maxRecDepth 100000 in
theorem rleast_any (x y z x2 y2 z2 : Int) (w : World) : Calls Tryz.prog 63 #[.agg #[.int .i64 x, .int .i64 y, .int .i64 z], .agg #[.int .i64 x2, .int .i64 y2, .int .i64 z2]] w fun e w' => e = .returned (.agg #[.int .i64 (mnI x x2), .int .i64 (mnI y y2), .int .i64 (mnI z z2)]) ∧ Below w.heap.size w w' := by
  go_enter Tryz.func63, Tryz.ntmps63
  go_upto_region 1 with fail
  refine wp_told (fun W => Blk W w.heap.size 23 #[.int .i64 x, .int .i64 y, .int .i64 z] ∧ Blk W (w.heap.size + 1) 23 #[.int .i64 x2, .int .i64 y2, .int .i64 z2] ∧ Blk W (w.heap.size + 1 + 1) 23 #[.int .i64 0, .int .i64 0, .int .i64 0] ∧ Below w.heap.size w W)
    ⟨((Blk.new w _ _).alloc _).alloc _, (blk_new1 w _ _ _).alloc _, blk_new2 w _ _ _ _, (by (repeat (first | exact Below.refl _ _ | refine Below.drew ?_ | refine Below.alloc ?_ (by first | exact Nat.le_refl _ | (simp; done) | (simp; omega)) _)))⟩ ?_
  rintro W4 ⟨h0, h1, h2, bel⟩
  have c0 : W4.cell? ⟨w.heap.size, 0, none⟩ = some (.int .i64 x) := h0.cell' 0 rfl
  have c1 : W4.cell? ⟨w.heap.size, 1, none⟩ = some (.int .i64 y) := h0.cell' 1 rfl
  have c2 : W4.cell? ⟨w.heap.size, 2, none⟩ = some (.int .i64 z) := h0.cell' 2 rfl
  have e0 : W4.cell? ⟨w.heap.size + 1, 0, none⟩ = some (.int .i64 x2) := h1.cell' 0 rfl
  have e1 : W4.cell? ⟨w.heap.size + 1, 1, none⟩ = some (.int .i64 y2) := h1.cell' 1 rfl
  have e2 : W4.cell? ⟨w.heap.size + 1, 2, none⟩ = some (.int .i64 z2) := h1.cell' 2 rfl
  have q0 : W4.cell? ⟨w.heap.size + 1 + 1, 0, none⟩ = some (.int .i64 0) := h2.cell' 0 rfl
  have q1 : W4.cell? ⟨w.heap.size + 1 + 1, 1, none⟩ = some (.int .i64 0) := h2.cell' 1 rfl
  have q2 : W4.cell? ⟨w.heap.size + 1 + 1, 2, none⟩ = some (.int .i64 0) := h2.cell' 2 rfl
  have f0 := h2.frozen 0
  have f1 := h2.frozen 1
  have f2 := h2.frozen 2
  have H2 := Lib.hid h2
  have BEL := Lib.hid bel
  clear h0 h1 h2 bel
  have m0 : (if x2 < x then x2 else x) = mnI x x2 := rfl
  have m1 : (if y2 < y then y2 else y) = mnI y y2 := rfl
  have m2 : (if z2 < z then z2 else z) = mnI z z2 := rfl
  go_wp2_with fail
  refine bodyPost_ret (results_cell_row rfl _ _ (w.heap.size + 1 + 1) 23 #[.int .i64 (mnI x x2), .int .i64 (mnI y y2), .int .i64 (mnI z z2)] (0, 0) _ rfl (((H2.out.put 0 _).put 1 _).put 2 _) Tryz.underlying23 rfl (by kernel_rfl)) rfl ?_
  exact ⟨rfl, ((BEL.out.setCell (by show w.heap.size ≤ w.heap.size + 1 + 1; omega) _).setCell (by show w.heap.size ≤ w.heap.size + 1 + 1; omega) _).setCell (by show w.heap.size ≤ w.heap.size + 1 + 1; omega) _⟩
set_option maxRecDepth 100000 in
theorem rmost_any (x y z x2 y2 z2 : Int) (w : World) : Calls Tryz.prog 64 #[.agg #[.int .i64 x, .int .i64 y, .int .i64 z], .agg #[.int .i64 x2, .int .i64 y2, .int .i64 z2]] w fun e w' => e = .returned (.agg #[.int .i64 (mxI x x2), .int .i64 (mxI y y2), .int .i64 (mxI z z2)]) ∧ Below w.heap.size w w' := by
  go_enter Tryz.func64, Tryz.ntmps64
  go_upto_region 1 with fail
  refine wp_told (fun W => Blk W w.heap.size 23 #[.int .i64 x, .int .i64 y, .int .i64 z] ∧ Blk W (w.heap.size + 1) 23 #[.int .i64 x2, .int .i64 y2, .int .i64 z2] ∧ Blk W (w.heap.size + 1 + 1) 23 #[.int .i64 0, .int .i64 0, .int .i64 0] ∧ Below w.heap.size w W)
    ⟨((Blk.new w _ _).alloc _).alloc _, (blk_new1 w _ _ _).alloc _, blk_new2 w _ _ _ _, (by (repeat (first | exact Below.refl _ _ | refine Below.drew ?_ | refine Below.alloc ?_ (by first | exact Nat.le_refl _ | (simp; done) | (simp; omega)) _)))⟩ ?_
  rintro W4 ⟨h0, h1, h2, bel⟩
  have c0 : W4.cell? ⟨w.heap.size, 0, none⟩ = some (.int .i64 x) := h0.cell' 0 rfl
  have c1 : W4.cell? ⟨w.heap.size, 1, none⟩ = some (.int .i64 y) := h0.cell' 1 rfl
  have c2 : W4.cell? ⟨w.heap.size, 2, none⟩ = some (.int .i64 z) := h0.cell' 2 rfl
  have e0 : W4.cell? ⟨w.heap.size + 1, 0, none⟩ = some (.int .i64 x2) := h1.cell' 0 rfl
  have e1 : W4.cell? ⟨w.heap.size + 1, 1, none⟩ = some (.int .i64 y2) := h1.cell' 1 rfl
  have e2 : W4.cell? ⟨w.heap.size + 1, 2, none⟩ = some (.int .i64 z2) := h1.cell' 2 rfl
  have q0 : W4.cell? ⟨w.heap.size + 1 + 1, 0, none⟩ = some (.int .i64 0) := h2.cell' 0 rfl
  have q1 : W4.cell? ⟨w.heap.size + 1 + 1, 1, none⟩ = some (.int .i64 0) := h2.cell' 1 rfl
  have q2 : W4.cell? ⟨w.heap.size + 1 + 1, 2, none⟩ = some (.int .i64 0) := h2.cell' 2 rfl
  have f0 := h2.frozen 0
  have f1 := h2.frozen 1
  have f2 := h2.frozen 2
  have H2 := Lib.hid h2
  have BEL := Lib.hid bel
  clear h0 h1 h2 bel
  have m0 : (if x < x2 then x2 else x) = mxI x x2 := rfl
  have m1 : (if y < y2 then y2 else y) = mxI y y2 := rfl
  have m2 : (if z < z2 then z2 else z) = mxI z z2 := rfl
  go_wp2_with fail
  refine bodyPost_ret (results_cell_row rfl _ _ (w.heap.size + 1 + 1) 23 #[.int .i64 (mxI x x2), .int .i64 (mxI y y2), .int .i64 (mxI z z2)] (0, 0) _ rfl (((H2.out.put 0 _).put 1 _).put 2 _) Tryz.underlying23 rfl (by kernel_rfl)) rfl ?_
  exact ⟨rfl, ((BEL.out.setCell (by show w.heap.size ≤ w.heap.size + 1 + 1; omega) _).setCell (by show w.heap.size ≤ w.heap.size + 1 + 1; omega) _).setCell (by show w.heap.size ≤ w.heap.size + 1 + 1; omega) _⟩
/-- cncref13.Inside. -/
def rinsV (i : It) (pu pw : Int) : Bool := i.full || sweepV (wS i.fU i.cU) (wS i.fW i.cW) (wS i.tU i.cU) (wS i.tW i.cW) pu pw i.dir
attribute [local go_sem] itA_0 itA_1 itA_2 itA_3 itA_4 itA_5 itA_6 itA_7 itA_8 itA_9 itA_10 itA_11 itA_12 itA_13 itA_14 itA_15 itA_16 itA_17 itA_18 itA_19 itA_20 itA_21
set_option maxRecDepth 100000 in
theorem rinside_any (i : It) (pu pw : Int) (hd : i.dir = 1 ∨ i.dir = -1) (h1 : Sm (wS i.fU i.cU)) (h2 : Sm (wS i.fW i.cW)) (h3 : Sm (wS i.tU i.cU)) (h4 : Sm (wS i.tW i.cW)) (h5 : Sm pu) (h6 : Sm pw) (w : World) :
    Calls Tryz.prog 68 #[.agg (itA i), .agg #[.int .i64 pu, .int .i64 pw]] w fun e w' => e = .returned (.bool (rinsV i pu pw)) ∧ Below w.heap.size w w' := by
  have KS := fun W => rspokes_any i W
  have KA := fun W => insweep_any (wS i.fU i.cU) (wS i.fW i.cW) (wS i.tU i.cU) (wS i.tW i.cW) pu pw i.dir i.full hd h1 h2 h3 h4 h5 h6 W
  unfold rinsV
  obtain ⟨res, hva⟩ : ∃ b, (i.full || sweepV (wS i.fU i.cU) (wS i.fW i.cW) (wS i.tU i.cU) (wS i.tW i.cW) pu pw i.dir) = b := ⟨_, rfl⟩
  rw [hva] at KA ⊢
  clear hva
  generalize wS i.fU i.cU = au at *
  generalize wS i.fW i.cW = aw at *
  generalize wS i.tU i.cU = bu at *
  generalize wS i.tW i.cW = bw at *
  have KS := Lib.hid KS
  have KA := Lib.hid KA
  clear h1 h2 h3 h4 h5 h6 hd
  go_enter Tryz.func68, Tryz.ntmps68
  go_upto_region 1 with fail
  refine wp_told (fun W => ItAt W w.heap.size i ∧ Blk W (w.heap.size + 1) 88 #[.int .i64 pu, .int .i64 pw] ∧ Below w.heap.size w W) ⟨(ItAt.new w i).alloc _, blk_new1 w _ _ _, (by (repeat (first | exact Below.refl _ _ | refine Below.drew ?_ | refine Below.alloc ?_ (by first | exact Nat.le_refl _ | (simp; done) | (simp; omega)) _)))⟩ ?_
  rintro W1 ⟨hi, hp, bel⟩
  have HI := Lib.hid hi
  have HP := Lib.hid hp
  have BEL := Lib.hid bel
  clear hi hp bel
  go_wp2_with ((with_reducible refine go_loadI (.tmp 2) w.heap.size i (by with_unfolding_all rfl) HI.out ?_))
  refine (KS.out _).mono ?_
  rintro e W2 ⟨rfl, b2⟩
  have HI2 := Lib.hid (HI.out.below b2)
  have HP2 := Lib.hid (HP.out.below b2 HP.out.lt)
  have B2 := Lib.hid (BEL.out.trans (b2.mono BEL.out.size))
  have lt2 := HP2.out.lt
  clear b2 HI HP BEL
  go_upto_region 2 with fail
  refine wp_told (fun W => ItAt W w.heap.size i ∧ Blk W (w.heap.size + 1) 88 #[.int .i64 pu, .int .i64 pw] ∧ Blk W W2.heap.size 88 #[.int .i64 au, .int .i64 aw] ∧ Blk W (W2.heap.size + 1) 88 #[.int .i64 bu, .int .i64 bw] ∧ Below w.heap.size w W)
    ⟨(HI2.out.alloc _).alloc _, (HP2.out.alloc _).alloc _, (Blk.new W2 _ _).alloc _, blk_new1 W2 _ _ _, (B2.out.alloc (by omega) _).alloc (by simp; omega) _⟩ ?_
  rintro W3 ⟨hi3, hp3, ha3, hb3, bel3⟩
  clear HI2 HP2 B2 lt2
  obtain ⟨N, hNe⟩ : ∃ N, W2.heap.size = N := ⟨_, rfl⟩
  rw [hNe] at ha3 hb3 ⊢
  clear hNe
  have c12 := hi3.c12
  have c13 := hi3.c13
  have p0 : W3.cell? ⟨w.heap.size + 1, 0, none⟩ = some (.int .i64 pu) := hp3.cell' 0 rfl
  have p1 : W3.cell? ⟨w.heap.size + 1, 1, none⟩ = some (.int .i64 pw) := hp3.cell' 1 rfl
  have a0 : W3.cell? ⟨N, 0, none⟩ = some (.int .i64 au) := ha3.cell' 0 rfl
  have a1 : W3.cell? ⟨N, 1, none⟩ = some (.int .i64 aw) := ha3.cell' 1 rfl
  have b0 : W3.cell? ⟨N + 1, 0, none⟩ = some (.int .i64 bu) := hb3.cell' 0 rfl
  have b1 : W3.cell? ⟨N + 1, 1, none⟩ = some (.int .i64 bw) := hb3.cell' 1 rfl
  have BEL3 := Lib.hid bel3
  clear hi3 hp3 ha3 hb3 bel3
  go_wp2_with fail
  refine (KA.out _).mono ?_
  rintro e W5 ⟨rfl, b5⟩
  have BF := Lib.hid (BEL3.out.trans (b5.mono BEL3.out.size))
  clear b5
  go_wp2_with fail
  go_ret
  exact ⟨rfl, BF.out⟩
end Go.Proofs.YtefdjdipbnnoaaaGreatDoor
