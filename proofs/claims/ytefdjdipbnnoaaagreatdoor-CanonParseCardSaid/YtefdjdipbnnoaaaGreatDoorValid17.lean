/-
  canon.sided, motion, Valid: any item.
-/
import Derived.Test.YtefdjdipbnnoaaaGreatDoorArcC17
import Derived.Test.YtefdjdipbnnoaaaGreatDoorGd
namespace Go.Proofs.YtefdjdipbnnoaaaGreatDoor
open Go Go.RowKit
set_option linter.unusedVariables false
set_option linter.unusedSimpArgs false

attribute [local go_sem] itA_0 itA_1 itA_2 itA_3 itA_4 itA_5 itA_6 itA_7 itA_8 itA_9 itA_10 itA_11 itA_12 itA_13 itA_14 itA_15 itA_16 itA_17 itA_18 itA_19 itA_20 itA_21
def sidedB (i : It) : Bool := if i.side = 0 then decide (i.radius = 0 ∧ (i.plane = 0 ∨ i.kind = 3)) else decide ((i.kind = 1 ∨ i.kind = 2 ∨ i.kind = 3) ∧ flOk i.plane = true ∧ (i.side = 1 ∨ i.side = -1) ∧ 0 ≤ i.radius ∧ i.radius ≤ 32768)
set_option maxRecDepth 100000 in
set_option maxHeartbeats 1000000 in
theorem sided_any (i : It) (w : World) : Calls Tryz.prog 90 #[.agg (itA i)] w fun e w' => e = .returned (.bool (sidedB i)) ∧ Below w.heap.size w w' := by
  have KF := Lib.hid (fun W => flat_any i.plane i.fx i.fy i.fz W)
  by_cases h0 : i.side = 0
  · obtain ⟨sv, hsv⟩ : ∃ b, sidedB i = b := ⟨_, rfl⟩
    have HSV := Lib.hid (show sv = decide (i.radius = 0 ∧ (i.plane = 0 ∨ i.kind = 3)) by rw [← hsv]; unfold sidedB; rw [if_pos h0])
    rw [hsv]
    clear hsv
    have k0 : (i.side == 0) = true := by simpa using h0
    go_enter Tryz.func90, Tryz.ntmps90
    go_wp2_with fail
    all_goals
      go_ret
      exact ⟨ret_bool (by rw [HSV.out]; (rw [Bool.eq_iff_iff]; simp only [Bool.or_eq_true, Bool.and_eq_true, Bool.not_eq_true', beq_iff_eq, beq_eq_false_iff_ne, bne_iff_ne, decide_eq_true_eq, decide_eq_false_iff_not, true_iff, iff_true, false_iff, iff_false, Bool.false_eq_true, true_and, and_true, false_and, and_false, true_or, or_true, false_or, or_false]; first | done | omega)), by (repeat (first | exact Below.refl _ _ | refine Below.drew ?_ | refine Below.alloc ?_ (by first | exact Nat.le_refl _ | (simp; done) | (simp; omega)) _ | refine Below.setCell ?_ (by first | exact Nat.le_refl _ | (simp; done) | (simp; omega)) _))⟩
  · obtain ⟨ok, hok⟩ : ∃ b, flOk i.plane = b := ⟨_, rfl⟩
    obtain ⟨sv, hsv⟩ : ∃ b, sidedB i = b := ⟨_, rfl⟩
    have HSV := Lib.hid (show sv = decide ((i.kind = 1 ∨ i.kind = 2 ∨ i.kind = 3) ∧ ok = true ∧ (i.side = 1 ∨ i.side = -1) ∧ 0 ≤ i.radius ∧ i.radius ≤ 32768) by rw [← hsv, ← hok]; unfold sidedB; rw [if_neg h0])
    rw [hsv]
    rw [hok] at KF
    clear hsv hok
    have k0 : (i.side == 0) = false := by simpa using h0
    go_enter Tryz.func90, Tryz.ntmps90
    go_wp2_with fail
    refine (KF.out _).mono ?_
    rintro e w1 ⟨rfl, b1⟩
    have sz1 := b1.size
    simp at sz1
    have l1 : w.heap.size < w1.heap.size := by omega
    have I1 : ItAt w1 w.heap.size i := ItAt.below (show ItAt _ w.heap.size i from by unfold ItAt; (repeat (first | exact Blk.new _ _ _ | exact blk_new1 _ _ _ _ | exact blk_new2 _ _ _ _ _ | refine Blk.drew ?_ | refine Blk.alloc ?_ _))) b1
    have BEL1 : Below w.heap.size w w1 := (show Below w.heap.size w _ by (repeat (first | exact Below.refl _ _ | refine Below.drew ?_ | refine Below.alloc ?_ (by first | exact Nat.le_refl _ | (simp; done) | (simp; omega)) _ | refine Below.setCell ?_ (by first | exact Nat.le_refl _ | (simp; done) | (simp; omega)) _))).trans (b1.mono (by first | (simp; done) | (simp; omega)))
    have c0 := I1.c0
    have c16 := I1.c16
    have c17 := I1.c17
    clear b1
    have hk : (i.kind = 1 ∨ i.kind = 2 ∨ i.kind = 3) ∨ (i.kind ≠ 1 ∧ i.kind ≠ 2 ∧ i.kind ≠ 3) := by omega
    rcases hk with hk | ⟨hk1, hk2, hk3⟩
    · cases ok
      · have EE : sv = false := by rw [HSV.out]; simp
        subst EE
        rcases hk with hk | hk | hk
        all_goals
          rw [hk] at c0
          go_wp2_with fail
          go_ret
          exact ⟨rfl, BEL1.alloc (by omega) _⟩
      · have HSV := Lib.hid (show sv = decide ((i.side = 1 ∨ i.side = -1) ∧ 0 ≤ i.radius ∧ i.radius ≤ 32768) by rw [HSV.out]; simp [hk])
        rcases hk with hk | hk | hk
        all_goals
          rw [hk] at c0
          go_wp2_with fail
          all_goals
            go_ret
            exact ⟨ret_bool (by rw [HSV.out]; (rw [Bool.eq_iff_iff]; simp only [Bool.or_eq_true, Bool.and_eq_true, Bool.not_eq_true', beq_iff_eq, beq_eq_false_iff_ne, bne_iff_ne, decide_eq_true_eq, decide_eq_false_iff_not, true_iff, iff_true, false_iff, iff_false, Bool.false_eq_true, true_and, and_true, false_and, and_false, true_or, or_true, false_or, or_false]; first | done | omega)), BEL1.alloc (by omega) _⟩
    · have EE : sv = false := by rw [HSV.out]; simp [hk1, hk2, hk3]
      have k1 : (i.kind == 1) = false := by simpa using hk1
      have k2 : (i.kind == 2) = false := by simpa using hk2
      have k3 : (i.kind == 3) = false := by simpa using hk3
      subst EE
      go_wp2_with fail
      go_ret
      exact ⟨rfl, BEL1.alloc (by omega) _⟩

theorem gd_item {P : Program} {ops : Array Oper} {rest : List Oper} {a : Act} {w : World} {Q : Exit → Act → World → Prop} {dst : Option Tmp} {ty0 : TypeId} {pos : String} {after : Array Edge} {gd : Nat × Bool} {d : TypeDesc} (ty : TypeId) (x : Operand) (g : Nat) (i : It)
    (hw : Region.wanted ⟨dst, .load ty x, ty0, pos, after, some gd⟩ (yielded ops a.tmps) = true) (hx : a.eval x = .pointer (some ⟨g, 0, none⟩)) (hI : ItAt w g i)
    (hu : P.underlying ty = some d) (hd : d.isRow = true) (hi : (P.info? ty).map (·.size) = some 22) (h : wpList P ops Q rest (a.put dst (.agg (itA i))) w) : wpList P ops Q (⟨dst, .load ty x, ty0, pos, after, some gd⟩ :: rest) a w :=
  gd_load_mid ty x g 0 (itA i).toList d hw hx (fun j v hv => by rw [Nat.zero_add]; exact Blk.cell' hI j (by simpa using hv)) hu hd (by rw [hi]; rfl) (by simpa using h)
def zeroC (i : It) : Prop := i.cx = 0 ∧ i.cy = 0 ∧ i.cz = 0 ∧ i.dir = 0 ∧ i.full = false
instance (i : It) : Decidable (zeroC i) := by unfold zeroC; infer_instance
def endB (i : It) : Bool :=
  decide ((if i.kind = 6 then i.n = 3 ∨ i.n = 4 else i.n = 0) ∧ (if i.kind = 1 then i.feed = 0 ∧ i.perRev = false ∧ i.blend = 0 else 1 ≤ i.feed ∧ i.feed ≤ 60000000 ∧ (if i.kind = 2 ∨ i.kind = 3 then 0 ≤ i.blend ∧ i.blend ≤ 1000 else if i.kind = 5 ∨ i.kind = 6 then i.blend = 0 ∧ i.perRev = true else i.blend = 0)))
def motionB (i : It) : Bool := withB i.fx i.fy i.fz && (withB i.tx i.ty i.tz && (decide (i.speed = 0) && (!i.on && (sidedB i && (decide (if i.kind = 3 then arcE i = 0 else zeroC i) && endB i)))))
set_option maxRecDepth 100000 in
set_option maxHeartbeats 4000000 in
theorem motion_any (i : It) (hk : 1 ≤ i.kind ∧ i.kind ≤ 6) (w : World) : Calls Tryz.prog 55 #[.agg (itA i)] w fun e w' => e = .returned (.bool (motionB i)) ∧ Below w.heap.size w w' := by
  have K1 := Lib.hid (fun W => within_any i.fx i.fy i.fz W)
  have K2 := Lib.hid (fun W => within_any i.tx i.ty i.tz W)
  have K3 := Lib.hid (fun W => sided_any i W)
  have K4 := Lib.hid (fun W => acheck_any i W)
  obtain ⟨g1, hg1⟩ : ∃ b, withB i.fx i.fy i.fz = b := ⟨_, rfl⟩
  obtain ⟨g2, hg2⟩ : ∃ b, withB i.tx i.ty i.tz = b := ⟨_, rfl⟩
  obtain ⟨g3, hg3⟩ : ∃ b, sidedB i = b := ⟨_, rfl⟩
  obtain ⟨g4, hg4⟩ : ∃ b, arcE i = b := ⟨_, rfl⟩
  obtain ⟨sv, hsv⟩ : ∃ b, motionB i = b := ⟨_, rfl⟩
  have HSV := Lib.hid (show sv = (g1 && (g2 && (decide (i.speed = 0) && (!i.on && (g3 && (decide (if i.kind = 3 then g4 = 0 else zeroC i) && endB i)))))) by rw [← hsv, ← hg1, ← hg2, ← hg3, ← hg4]; rfl)
  rw [hg1] at K1
  rw [hg2] at K2
  rw [hg3] at K3
  rw [hg4] at K4
  rw [hsv]
  clear hg1 hg2 hg3 hg4 hsv
  go_enter Tryz.func55, Tryz.ntmps55
  go_wp2_with fail
  refine (K1.out _).mono ?_
  rintro e w1 ⟨rfl, b1⟩
  have sz1 := b1.size
  simp at sz1
  have l1 : w.heap.size < w1.heap.size := by omega
  have I1 : ItAt w1 w.heap.size i := ItAt.below (show ItAt _ w.heap.size i from by unfold ItAt; (repeat (first | exact Blk.new _ _ _ | exact blk_new1 _ _ _ _ | exact blk_new2 _ _ _ _ _ | refine Blk.drew ?_ | refine Blk.alloc ?_ _))) b1
  have BEL1 : Below w.heap.size w w1 := (show Below w.heap.size w _ by (repeat (first | exact Below.refl _ _ | refine Below.drew ?_ | refine Below.alloc ?_ (by first | exact Nat.le_refl _ | (simp; done) | (simp; omega)) _ | refine Below.setCell ?_ (by first | exact Nat.le_refl _ | (simp; done) | (simp; omega)) _))).trans (b1.mono (by first | (simp; done) | (simp; omega)))
  clear b1
  cases g1
  · have EE : sv = false := by rw [HSV.out]; simp
    subst EE
    go_wp2_with fail
    go_ret
    exact ⟨rfl, BEL1⟩
  have c5 := I1.c5
  have c6 := I1.c6
  have c7 := I1.c7
  go_wp2_with fail
  refine (K2.out _).mono ?_
  rintro e w2 ⟨rfl, b2⟩
  clear c5 c6 c7
  have sz2 := b2.size
  have l2 : w.heap.size < w2.heap.size := by omega
  have I2 : ItAt w2 w.heap.size i := ItAt.below I1 b2
  have BEL2 : Below w.heap.size w w2 := BEL1.trans (b2.mono (by omega))
  clear b2 I1 BEL1
  cases g2
  · have EE : sv = false := by rw [HSV.out]; simp
    subst EE
    go_wp2_with fail
    go_ret
    exact ⟨rfl, BEL2⟩
  have c20 := I2.c20
  have c21 := I2.c21
  by_cases hsp : i.speed = 0
  rotate_left
  · have EE : sv = false := by rw [HSV.out]; simp [hsp]
    have k1 : (i.speed == 0) = false := by simpa using hsp
    have k2 : (i.speed != 0) = true := by simpa using hsp
    subst EE
    go_wp2_with fail
    go_ret
    exact ⟨rfl, BEL2⟩
  rw [hsp] at c20
  obtain ⟨on, hon⟩ : ∃ b, i.on = b := ⟨_, rfl⟩
  rw [hon] at c21
  have HON := Lib.hid hon
  have HSP := Lib.hid hsp
  clear hon hsp
  cases on
  rotate_left
  · have EE : sv = false := by rw [HSV.out]; simp [HON.out]
    subst EE
    go_wp2_with fail
    go_ret
    exact ⟨rfl, BEL2⟩
  go_wp2_with (first
    | ((with_reducible refine gd_item 25 (.tmp 1) w.heap.size i (by with_unfolding_all rfl) rfl I2 Tryz.underlying25 (by with_unfolding_all rfl) (by with_unfolding_all kernel_rfl) ?_)))
  refine (K3.out _).mono ?_
  rintro e w3 ⟨rfl, b3⟩
  clear c20 c21
  have sz3 := b3.size
  have l3 : w.heap.size < w3.heap.size := by omega
  have I3 : ItAt w3 w.heap.size i := ItAt.below I2 b3
  have BEL3 : Below w.heap.size w w3 := BEL2.trans (b3.mono (by omega))
  clear b3 I2 BEL2
  cases g3
  · have EE : sv = false := by rw [HSV.out]; simp
    subst EE
    go_wp2_with fail
    go_ret
    exact ⟨rfl, BEL3⟩
  have HS2 : Hid (sv = (decide (if i.kind = 3 then g4 = 0 else zeroC i) && endB i)) := Lib.hid (by rw [HSV.out, HSP.out, HON.out]; simp)
  clear HSV
  have c0 := I3.c0
  obtain ⟨full, hfull⟩ : ∃ b, i.full = b := ⟨_, rfl⟩
  obtain ⟨per, hper⟩ : ∃ b, i.perRev = b := ⟨_, rfl⟩
  by_cases h3 : i.kind = 3
  · have HSV3 := Lib.hid (show sv = decide (g4 = 0 ∧ i.n = 0 ∧ 1 ≤ i.feed ∧ i.feed ≤ 60000000 ∧ 0 ≤ i.blend ∧ i.blend ≤ 1000) by rw [HS2.out]; simp only [endB, h3]; rw [Bool.eq_iff_iff]; simp)
    clear HS2
    rw [h3] at c0
    have I3' : w3.heap[w.heap.size]? = some (.cells (itA i) 25 (0, 0)) := I3
    go_wp2_with (first
      | ((with_reducible refine go_load_row 25 (.tmp 1) w.heap.size 25 (itA i) _ rfl I3' Tryz.underlying25 rfl (by kernel_rfl) ?_)))
    refine (K4.out _).mono ?_
    rintro e w4 ⟨rfl, b4⟩
    clear I3'
    have sz4 := b4.size
    have l4 : w.heap.size < w4.heap.size := by omega
    have I4 : ItAt w4 w.heap.size i := ItAt.below I3 b4
    have BEL4 : Below w.heap.size w w4 := BEL3.trans (b4.mono (by omega))
    clear b4 I3 BEL3
    clear c0
    have hk := h3
    clear h3
    by_cases hg : g4 = 0
    rotate_left
    · have EE : sv = false := by rw [HSV3.out]; simp [hg]
      have k1 : (g4 == 0) = false := by simpa using hg
      have k2 : (g4 != 0) = true := by simpa using hg
      subst EE
      go_wp2_with fail
      go_ret
      exact ⟨rfl, BEL4⟩
    subst hg
    have c0 := I4.c0
    have c19 := I4.c19
    by_cases hn : i.n = 0
    rotate_left
    · have EE : sv = false := by rw [HSV3.out]; simp [hn]
      have k1 : (i.n == 0) = false := by simpa using hn
      have k2 : (i.n != 0) = true := by simpa using hn
      rw [hk] at c0
      subst EE
      go_wp2_with fail
      go_ret
      exact ⟨rfl, BEL4⟩
    rw [hn] at c19
    have HS4 : Hid (sv = decide (1 ≤ i.feed ∧ i.feed ≤ 60000000 ∧ 0 ≤ i.blend ∧ i.blend ≤ 1000)) := Lib.hid (by rw [HSV3.out]; simp [hn])
    clear hn c0 HSV3
    have c0 := I4.c0
    have c8 := I4.c8
    have c9 := I4.c9
    have c10 := I4.c10
    have c11 := I4.c11
    have c12 := I4.c12
    have c13 := I4.c13
    have c14 := I4.c14
    have c15 := I4.c15
    have c18 := I4.c18
    rw [hk] at c0
    try rw [hfull] at c13
    try rw [hper] at c15
    try clear hfull
    try clear hper
    clear hk
    go_wp2_with fail
    all_goals
      go_ret
      exact ⟨ret_bool (by rw [HS4.out]; (rw [Bool.eq_iff_iff]; simp only [Bool.or_eq_true, Bool.and_eq_true, Bool.not_eq_true', beq_iff_eq, beq_eq_false_iff_ne, bne_iff_ne, decide_eq_true_eq, decide_eq_false_iff_not, true_iff, iff_true, false_iff, iff_false, Bool.false_eq_true, true_and, and_true, false_and, and_false, true_or, or_true, false_or, or_false]; first | done | omega)), BEL4⟩
  · have HS5 : Hid (sv = (decide (zeroC i) && endB i)) := Lib.hid (by rw [HS2.out]; simp only [if_neg h3])
    clear HS2
    have h3' : (i.kind == 3) = false := by simpa using h3
    have c9 := I3.c9
    have c10 := I3.c10
    have c11 := I3.c11
    have c12 := I3.c12
    have c13 := I3.c13
    rw [hfull] at c13
    have hz : i.cx = 0 ∨ i.cx ≠ 0 := by omega
    rcases hz with hz | hz
    rotate_left
    · have EE : sv = false := by rw [HS5.out]; simp [zeroC, hz]
      have k1 : (i.cx == 0) = false := by simpa using hz
      subst EE
      go_wp2_with fail
      go_ret
      exact ⟨rfl, BEL3⟩
    rw [hz] at c9
    rcases (show i.cy = 0 ∨ i.cy ≠ 0 by omega) with hy | hy
    rotate_left
    · have EE : sv = false := by rw [HS5.out]; simp [zeroC, hy]
      have k1 : (i.cy == 0) = false := by simpa using hy
      subst EE
      go_wp2_with fail
      go_ret
      exact ⟨rfl, BEL3⟩
    rw [hy] at c10
    rcases (show i.cz = 0 ∨ i.cz ≠ 0 by omega) with hx | hx
    rotate_left
    · have EE : sv = false := by rw [HS5.out]; simp [zeroC, hx]
      have k1 : (i.cz == 0) = false := by simpa using hx
      subst EE
      go_wp2_with fail
      go_ret
      exact ⟨rfl, BEL3⟩
    rw [hx] at c11
    rcases (show i.dir = 0 ∨ i.dir ≠ 0 by omega) with hd | hd
    rotate_left
    · have EE : sv = false := by rw [HS5.out]; simp [zeroC, hd]
      have k1 : (i.dir == 0) = false := by simpa using hd
      have k2 : (i.dir != 0) = true := by simpa using hd
      subst EE
      go_wp2_with fail
      go_ret
      exact ⟨rfl, BEL3⟩
    rw [hd] at c12
    cases full
    rotate_left
    · have EE : sv = false := by rw [HS5.out]; simp [zeroC, hfull]
      subst EE
      go_wp2_with fail
      go_ret
      exact ⟨rfl, BEL3⟩
    have HS6 : Hid (sv = endB i) := Lib.hid (by rw [HS5.out]; simp [zeroC, hz, hy, hx, hd, hfull])
    clear HS5 hfull hz hy hx hd
    have c14 := I3.c14
    have c15 := I3.c15
    have c18 := I3.c18
    have c19 := I3.c19
    rw [hper] at c15
    rcases (show i.kind = 6 ∨ i.kind = 1 ∨ i.kind = 2 ∨ i.kind = 4 ∨ i.kind = 5 by omega) with hk' | hk' | hk' | hk' | hk'
    · clear h3 h3'
      rw [hk'] at c0
      unfold endB at HS6
      simp only [hk', hper] at HS6
      clear hper hk' hk
      rcases (show i.n = 3 ∨ i.n = 4 ∨ (i.n ≠ 3 ∧ i.n ≠ 4) by omega) with hn | hn | ⟨hn1, hn2⟩
      rotate_left 2
      · have EE : sv = false := by rw [HS6.out]; simp [hn1, hn2]
        have k1 : (i.n == 3) = false := by simpa using hn1
        have k2 : (i.n == 4) = false := by simpa using hn2
        have k3 : (i.n != 3) = true := by simpa using hn1
        have k4 : (i.n != 4) = true := by simpa using hn2
        subst EE
        go_wp2_with fail
        go_ret
        exact ⟨rfl, BEL3⟩
      all_goals
        have HS7 := HS6
        simp only [hn] at HS7
        rw [hn] at c19
        clear hn HS6
        cases per
        all_goals
          go_wp2_with fail
          all_goals
            go_ret
            exact ⟨ret_bool (by rw [HS7.out]; (rw [Bool.eq_iff_iff]; first | (simp; done) | (simp; omega) | (rw [Bool.eq_iff_iff]; simp only [Bool.or_eq_true, Bool.and_eq_true, Bool.not_eq_true', beq_iff_eq, beq_eq_false_iff_ne, bne_iff_ne, decide_eq_true_eq, decide_eq_false_iff_not, true_iff, iff_true, false_iff, iff_false, Bool.false_eq_true, true_and, and_true, false_and, and_false, true_or, or_true, false_or, or_false]; first | done | omega))), BEL3⟩
    all_goals
      clear h3 h3'
      rw [hk'] at c0
      unfold endB at HS6
      simp only [hk', hper] at HS6
      clear hper hk' hk
      rcases (show i.n = 0 ∨ i.n ≠ 0 by omega) with hn | hn
      rotate_left
      · have EE : sv = false := by rw [HS6.out]; simp [hn]
        have k1 : (i.n == 0) = false := by simpa using hn
        have k2 : (i.n != 0) = true := by simpa using hn
        subst EE
        go_wp2_with fail
        go_ret
        exact ⟨rfl, BEL3⟩
      have HS7 := HS6
      simp only [hn] at HS7
      rw [hn] at c19
      clear hn HS6
      cases per
      all_goals
        go_wp2_with fail
        all_goals
          go_ret
          exact ⟨ret_bool (by rw [HS7.out]; (rw [Bool.eq_iff_iff]; first | (simp; done) | (simp; omega) | (rw [Bool.eq_iff_iff]; simp only [Bool.or_eq_true, Bool.and_eq_true, Bool.not_eq_true', beq_iff_eq, beq_eq_false_iff_ne, bne_iff_ne, decide_eq_true_eq, decide_eq_false_iff_not, true_iff, iff_true, false_iff, iff_false, Bool.false_eq_true, true_and, and_true, false_and, and_false, true_or, or_true, false_or, or_false]; first | done | omega))), BEL3⟩
end Go.Proofs.YtefdjdipbnnoaaaGreatDoor
