/-
  cnclaw17.CanonFields: the walk.
-/
import Derived.Test.YtefdjdipbnnoaaaDoorAwake17
import Derived.Test.YtefdjdipbnnoaaaDoorStageF17
namespace Go.Proofs.YtefdjdipbnnoaaaDoor
open Go Go.RowKit
set_option linter.unusedVariables false
set_option linter.unusedSimpArgs false

/-- An item with a field that its kind does not use. -/
def badI (i : It) (n : Int) : It :=
  if i.kind = 1 then { i with feed := n } else if i.kind = 2 ∨ i.kind = 4 ∨ i.kind = 5 then { i with speed := n } else if i.kind = 3 then { i with on := true }
  else if i.kind = 6 ∨ i.kind = 11 then { i with blend := n } else if i.kind = 7 ∨ i.kind = 8 then { i with tx := n } else { i with dir := 1 }
theorem valid_motion {i : It} (h : validI i = true) (hm : motK i.kind = true) : i.speed = 0 ∧ i.on = false ∧ endB i = true := by
  unfold validI at h
  rw [hm] at h
  unfold motionB at h
  simp only [if_true, Bool.and_eq_true, decide_eq_true_eq, Bool.not_eq_true'] at h
  exact ⟨h.2.2.2.1, h.2.2.2.2.1, h.2.2.2.2.2.2.2⟩
theorem valid_other {i : It} (h : validI i = true) (hm : motK i.kind = false) : i = bareI i := by
  unfold validI at h
  rw [hm] at h
  simp only [Bool.false_eq_true, if_false, Bool.and_eq_true] at h
  exact of_decide_eq_true h.2.1
theorem bad_false (i : It) (n : Int) (hn : 1 ≤ n ∧ n ≤ 3) : validI (badI i n) = false := by
  rw [Bool.eq_false_iff]
  intro h
  unfold badI at h
  split at h
  · rename_i hk
    have := (valid_motion h (by show motK i.kind = true; rw [hk]; rfl)).2.2
    unfold endB at this
    simp only [hk] at this
    simp at this
    omega
  · split at h
    · rename_i _ hk
      have := (valid_motion h (by show motK i.kind = true; rcases hk with hk | hk | hk <;> (rw [hk]; rfl))).1
      simp only at this
      omega
    · split at h
      · rename_i _ _ hk
        have := (valid_motion h (by show motK i.kind = true; rw [hk]; rfl)).2.1
        cases this
      · split at h
        · rename_i _ _ _ hk
          rcases hk with hk | hk
          · have := (valid_motion h (by show motK i.kind = true; rw [hk]; rfl)).2.2
            unfold endB at this
            simp only [hk] at this
            simp at this
            omega
          · have := congrArg It.blend (valid_other h (by show motK i.kind = false; rw [hk]; rfl))
            simp only [bareI] at this
            omega
        · split at h
          · rename_i _ _ _ _ hk
            have := congrArg It.tx (valid_other h (by show motK i.kind = false; rcases hk with hk | hk <;> (rw [hk]; rfl)))
            simp only [bareI] at this
            omega
          · have hk := validI_kind h
            simp only at hk
            have := congrArg It.dir (valid_other h (by show motK i.kind = false; unfold motK; simp; omega))
            simp only [bareI] at this
            omega
attribute [local go_sem] itA_0 itA_1 itA_2 itA_3 itA_4 itA_5 itA_6 itA_7 itA_8 itA_9 itA_10 itA_11 itA_12 itA_13 itA_14 itA_15 itA_16 itA_17 itA_18 itA_19 itA_20 itA_21
set_option maxRecDepth 100000 in
set_option maxHeartbeats 4000000 in
theorem lfields_walk (a0 : Option Addr) (len0 cap0 : Nat) (z0 : List Int) (a1 : Int) (w : World) (hE : Env w) (w0 : IsRow .i64 w a0 len0 cap0 z0) (hn : len0 ≤ 9223372036854775807) :
    Calls Tryd.prog 6 #[.slice a0 len0 cap0, .int .i64 a1] w fun e w' => e = .returned (.bool true) ∧ Below w.heap.size w w' := by
  have HE0 := Lib.hid hE
  have hlow := hE.low
  have KL := Lib.hid (light_any w a0 len0 cap0)
  have KN := Lib.hid (tape_new w a0 len0 cap0 z0 w0 hn)
  obtain ⟨z, hz⟩ : ∃ z, (fun i => z0.getD i 0) = z := ⟨_, rfl⟩
  rw [hz] at KN
  clear hE w0 hn hz
  go_enter Tryd.func6, Tryd.ntmps6
  go_wp2_with fail
  refine KL.out.mono ?_
  rintro e w' ⟨rfl, rfl⟩
  by_cases h120 : len0 ≤ 120
  rotate_left
  · have d1 : decide (len0 ≤ 120) = false := decide_eq_false h120
    go_wp2_with fail
    refine (awake_true _ HE0.out).mono ?_
    rintro e w1 ⟨rfl, b1⟩
    go_wp2_with fail
    go_ret
    exact ⟨rfl, b1⟩
  have d1 : decide (len0 ≤ 120) = true := decide_eq_true h120
  go_wp2_with fail
  refine KN.out.mono ?_
  rintro e w1 ⟨rfl, hs1, b1⟩
  have sz1 := b1.size
  have B1 := Lib.hid b1
  have S1 := Lib.hid hs1
  have l1 := hs1.lt
  clear hs1 b1 KN KL
  go_wp2_with fail
  refine (svec_any w1 w.heap.size w.heap.size a0 len0 cap0 z 900 ⟨0, S1.out⟩ (by omega) (by omega)).mono ?_
  rintro e w2 ⟨x0, y0, u0, _, _, _, rfl, G2⟩
  have sz2 := G2.size
  have G2 := Lib.hid G2
  go_wp2_with fail
  refine (sitem_any w2 w.heap.size w.heap.size a0 len0 cap0 z x0 y0 u0 G2.out.src).mono ?_
  rintro e w3 ⟨it, _, rfl, G3⟩
  have G3 := Lib.hid (G2.out.trans G3)
  have sz3 := G3.out.size
  have B3 : Below w.heap.size w w3 := B1.out.trans (below_of_grown G3.out.gr (by omega) (fun k e => by injection e; omega))
  clear G2 G3 S1
  obtain ⟨W5, hW5⟩ : ∃ W, (w3.alloc (.cells (itA zeroI) 25)).setRow w3.heap.size (itA it) = W := ⟨_, rfl⟩
  have A5 : ItAt W5 w3.heap.size it := by rw [← hW5]; exact ItAt.row (ItAt.new w3 zeroI) _
  have B5 : Below w.heap.size w W5 := by rw [← hW5]; exact below_row (B3.alloc (by omega) _) (by omega) _
  have lt5 := A5.lt
  have A5 := Lib.hid A5
  have B5 := Lib.hid B5
  clear B3 B1
  have KV := Lib.hid (fun W => rvalid_v it W)
  obtain ⟨vl, hvl⟩ : ∃ b, validI it = b := ⟨_, rfl⟩
  rw [hvl] at KV
  have HVL := Lib.hid hvl
  clear hvl
  have KB := Lib.hid (fun W => between_any a1 1 3 W (by omega) (by omega) (by omega))
  have hbd := between_bd a1 1 3 (by omega)
  obtain ⟨nv, hnv⟩ : ∃ nv, 1 + a1 % (3 - 1 + 1) = nv := ⟨_, rfl⟩
  rw [hnv] at KB hbd
  have HN := Lib.hid hbd
  clear hnv hbd
  go_upto_region 5 with (first
    | ((with_reducible refine go_allocI ?_))
    | ((with_reducible refine go_storeI (.tmp 6) (.tmp 18) w3.heap.size it zeroI (by with_unfolding_all rfl) (by with_unfolding_all rfl) (ItAt.new _ _) ?_)))
  try rw [hW5]
  clear hW5
  obtain ⟨H, hH⟩ : ∃ H, w3.heap.size = H := ⟨_, rfl⟩
  rw [hH] at A5 lt5 sz3
  try rw [hH]
  clear hH
  go_wp2_with ((with_reducible refine go_loadI (.tmp 6) H it (by with_unfolding_all rfl) A5.out ?_))
  refine (KV.out _).mono ?_
  rintro e w6 ⟨rfl, b6⟩
  have A6 := Lib.hid (show ItAt w6 H it from A5.out.below b6)
  have B6 := Lib.hid (B5.out.trans (b6.mono B5.out.size))
  have lt6 := A6.out.lt
  clear A5 B5 b6
  cases vl
  · go_wp2_with fail
    refine (awake_true _ (HE0.out.below B6.out hlow)).mono ?_
    rintro e w7 ⟨rfl, b7⟩
    have B7 := Lib.hid (B6.out.trans (b7.mono B6.out.size))
    clear b7
    go_wp2_with fail
    go_ret
    exact ⟨rfl, B7.out⟩
  have sz6 := B6.out.size
  go_wp2_with fail
  refine (KB.out _).mono ?_
  rintro e w' ⟨rfl, rfl⟩
  obtain ⟨W7, hW7⟩ : ∃ W, (w6.alloc (.cells (itA zeroI) 25)).setRow w6.heap.size (itA it) = W := ⟨_, rfl⟩
  have A7 : ItAt W7 H it := by rw [← hW7]; exact ItAt.rowFar (ItAt.alloc A6.out _) (by omega) _
  have X7 : ItAt W7 w6.heap.size it := by rw [← hW7]; exact ItAt.row (ItAt.new w6 zeroI) _
  have B7 : Below w.heap.size w W7 := by rw [← hW7]; exact below_row (B6.out.alloc (by omega) _) (by omega) _
  have A7h := Lib.hid A7
  have X7h := Lib.hid X7
  have B7h := Lib.hid B7
  clear A7 X7 B7
  go_upto_region 9 with (first
    | ((with_reducible refine go_loadI (.tmp 6) H it (by with_unfolding_all rfl) A6.out ?_))
    | ((with_reducible refine go_allocI ?_))
    | ((with_reducible refine go_storeI (.tmp 8) (.tmp 25) w6.heap.size it zeroI (by with_unfolding_all rfl) (by with_unfolding_all rfl) (ItAt.new _ _) ?_)))
  try rw [hW7]
  clear hW7 A6 B6
  obtain ⟨H2, hH2⟩ : ∃ H, w6.heap.size = H := ⟨_, rfl⟩
  rw [hH2] at X7h lt6 sz6
  try rw [hH2]
  clear hH2
  have hk := validI_kind HVL.out
  have c0 := A7h.out.c0
  have lA := A7h.out.lt
  have lX := X7h.out.lt
  have hne : H ≠ H2 := by omega
  rcases (show it.kind = 1 ∨ it.kind = 2 ∨ it.kind = 3 ∨ it.kind = 4 ∨ it.kind = 5 ∨ it.kind = 6 ∨ it.kind = 7 ∨ it.kind = 8 ∨ it.kind = 9 ∨ it.kind = 10 ∨ it.kind = 11 ∨ it.kind = 12 ∨ it.kind = 13 ∨ it.kind = 14 by omega) with hk | hk | hk | hk | hk | hk | hk | hk | hk | hk | hk | hk | hk | hk
  · skip
    have k1 : (it.kind == 1) = true := by rw [hk]; rfl
    have k2 : (it.kind == 2) = false := by rw [hk]; rfl
    have k4 : (it.kind == 4) = false := by rw [hk]; rfl
    have k5 : (it.kind == 5) = false := by rw [hk]; rfl
    have k3 : (it.kind == 3) = false := by rw [hk]; rfl
    have k6 : (it.kind == 6) = false := by rw [hk]; rfl
    have k11 : (it.kind == 11) = false := by rw [hk]; rfl
    have k7 : (it.kind == 7) = false := by rw [hk]; rfl
    have k8 : (it.kind == 8) = false := by rw [hk]; rfl
    have eb : badI it nv = { it with feed := nv } := by unfold badI; simp [hk]
    have f := Blk.frozen X7h.out 14
    have q := X7h.out.c14
    have XX := Lib.hid (show ItAt (W7.setCell ⟨H2, 14, none⟩ (.int .i64 nv)) H2 (badI it nv) by rw [eb]; exact X7h.out.s14 nv)
    have AX := Lib.hid (ItAt.far A7h.out (p := ⟨H2, 14, none⟩) (by show H ≠ H2; omega) (.int .i64 nv))
    have BX := Lib.hid (B7h.out.setCell (p := ⟨H2, 14, none⟩) (by show w.heap.size ≤ H2; omega) (.int .i64 nv))
    clear hk eb A7h X7h B7h
    go_wp2_with fail
    refine (awake_true _ (HE0.out.below BX.out hlow)).mono ?_
    rintro e w7 ⟨rfl, b7⟩
    have A7 := Lib.hid (Blk.below AX.out b7 AX.out.lt)
    have X7 := Lib.hid (Blk.below XX.out b7 XX.out.lt)
    have B7 := Lib.hid (BX.out.trans (b7.mono BX.out.size))
    have A7 : Hid (ItAt w7 H it) := A7
    have X7 : Hid (ItAt w7 H2 (badI it nv)) := X7
    clear b7 AX XX BX
    have KV1 := Lib.hid (fun W => cvalid_any it W)
    rw [HVL.out] at KV1
    have KV2 := Lib.hid (fun W => cvalid_any (badI it nv) W)
    rw [bad_false it nv HN.out] at KV2
    go_wp2_with (first | ((with_reducible refine gd_item 25 (.tmp 6) H it (by with_unfolding_all rfl) rfl A7.out Tryd.underlying25 (by with_unfolding_all rfl) (by with_unfolding_all kernel_rfl) ?_)))
    refine (KV1.out _).mono ?_
    rintro e w8 ⟨rfl, b8⟩
    have X8 := Lib.hid (Blk.below X7.out b8 X7.out.lt)
    have X8 : Hid (ItAt w8 H2 (badI it nv)) := X8
    have B8 := Lib.hid (B7.out.trans (b8.mono B7.out.size))
    clear b8 A7 X7 B7
    go_wp2_with (first | ((with_reducible refine gd_item 25 (.tmp 8) H2 (badI it nv) (by with_unfolding_all rfl) rfl X8.out Tryd.underlying25 (by with_unfolding_all rfl) (by with_unfolding_all kernel_rfl) ?_)))
    refine (KV2.out _).mono ?_
    rintro e w9 ⟨rfl, b9⟩
    have B9 := Lib.hid (B8.out.trans (b9.mono B8.out.size))
    clear b9 X8 B8
    go_wp2_with fail
    go_ret
    exact ⟨rfl, B9.out⟩
  · skip
    have k1 : (it.kind == 1) = false := by rw [hk]; rfl
    have k2 : (it.kind == 2) = true := by rw [hk]; rfl
    have k4 : (it.kind == 4) = false := by rw [hk]; rfl
    have k5 : (it.kind == 5) = false := by rw [hk]; rfl
    have k3 : (it.kind == 3) = false := by rw [hk]; rfl
    have k6 : (it.kind == 6) = false := by rw [hk]; rfl
    have k11 : (it.kind == 11) = false := by rw [hk]; rfl
    have k7 : (it.kind == 7) = false := by rw [hk]; rfl
    have k8 : (it.kind == 8) = false := by rw [hk]; rfl
    have eb : badI it nv = { it with speed := nv } := by unfold badI; simp [hk]
    have f := Blk.frozen X7h.out 20
    have q := X7h.out.c20
    have XX := Lib.hid (show ItAt (W7.setCell ⟨H2, 20, none⟩ (.int .i64 nv)) H2 (badI it nv) by rw [eb]; exact X7h.out.s20 nv)
    have AX := Lib.hid (ItAt.far A7h.out (p := ⟨H2, 20, none⟩) (by show H ≠ H2; omega) (.int .i64 nv))
    have BX := Lib.hid (B7h.out.setCell (p := ⟨H2, 20, none⟩) (by show w.heap.size ≤ H2; omega) (.int .i64 nv))
    clear hk eb A7h X7h B7h
    go_wp2_with fail
    refine (awake_true _ (HE0.out.below BX.out hlow)).mono ?_
    rintro e w7 ⟨rfl, b7⟩
    have A7 := Lib.hid (Blk.below AX.out b7 AX.out.lt)
    have X7 := Lib.hid (Blk.below XX.out b7 XX.out.lt)
    have B7 := Lib.hid (BX.out.trans (b7.mono BX.out.size))
    have A7 : Hid (ItAt w7 H it) := A7
    have X7 : Hid (ItAt w7 H2 (badI it nv)) := X7
    clear b7 AX XX BX
    have KV1 := Lib.hid (fun W => cvalid_any it W)
    rw [HVL.out] at KV1
    have KV2 := Lib.hid (fun W => cvalid_any (badI it nv) W)
    rw [bad_false it nv HN.out] at KV2
    go_wp2_with (first | ((with_reducible refine gd_item 25 (.tmp 6) H it (by with_unfolding_all rfl) rfl A7.out Tryd.underlying25 (by with_unfolding_all rfl) (by with_unfolding_all kernel_rfl) ?_)))
    refine (KV1.out _).mono ?_
    rintro e w8 ⟨rfl, b8⟩
    have X8 := Lib.hid (Blk.below X7.out b8 X7.out.lt)
    have X8 : Hid (ItAt w8 H2 (badI it nv)) := X8
    have B8 := Lib.hid (B7.out.trans (b8.mono B7.out.size))
    clear b8 A7 X7 B7
    go_wp2_with (first | ((with_reducible refine gd_item 25 (.tmp 8) H2 (badI it nv) (by with_unfolding_all rfl) rfl X8.out Tryd.underlying25 (by with_unfolding_all rfl) (by with_unfolding_all kernel_rfl) ?_)))
    refine (KV2.out _).mono ?_
    rintro e w9 ⟨rfl, b9⟩
    have B9 := Lib.hid (B8.out.trans (b9.mono B8.out.size))
    clear b9 X8 B8
    go_wp2_with fail
    go_ret
    exact ⟨rfl, B9.out⟩
  · skip
    have k1 : (it.kind == 1) = false := by rw [hk]; rfl
    have k2 : (it.kind == 2) = false := by rw [hk]; rfl
    have k4 : (it.kind == 4) = false := by rw [hk]; rfl
    have k5 : (it.kind == 5) = false := by rw [hk]; rfl
    have k3 : (it.kind == 3) = true := by rw [hk]; rfl
    have k6 : (it.kind == 6) = false := by rw [hk]; rfl
    have k11 : (it.kind == 11) = false := by rw [hk]; rfl
    have k7 : (it.kind == 7) = false := by rw [hk]; rfl
    have k8 : (it.kind == 8) = false := by rw [hk]; rfl
    have eb : badI it nv = { it with on := true } := by unfold badI; simp [hk]
    have f := Blk.frozen X7h.out 21
    have q := X7h.out.c21
    have XX := Lib.hid (show ItAt (W7.setCell ⟨H2, 21, none⟩ (.bool true)) H2 (badI it nv) by rw [eb]; exact X7h.out.s21 true)
    have AX := Lib.hid (ItAt.far A7h.out (p := ⟨H2, 21, none⟩) (by show H ≠ H2; omega) (.bool true))
    have BX := Lib.hid (B7h.out.setCell (p := ⟨H2, 21, none⟩) (by show w.heap.size ≤ H2; omega) (.bool true))
    clear hk eb A7h X7h B7h
    go_wp2_with fail
    refine (awake_true _ (HE0.out.below BX.out hlow)).mono ?_
    rintro e w7 ⟨rfl, b7⟩
    have A7 := Lib.hid (Blk.below AX.out b7 AX.out.lt)
    have X7 := Lib.hid (Blk.below XX.out b7 XX.out.lt)
    have B7 := Lib.hid (BX.out.trans (b7.mono BX.out.size))
    have A7 : Hid (ItAt w7 H it) := A7
    have X7 : Hid (ItAt w7 H2 (badI it nv)) := X7
    clear b7 AX XX BX
    have KV1 := Lib.hid (fun W => cvalid_any it W)
    rw [HVL.out] at KV1
    have KV2 := Lib.hid (fun W => cvalid_any (badI it nv) W)
    rw [bad_false it nv HN.out] at KV2
    go_wp2_with (first | ((with_reducible refine gd_item 25 (.tmp 6) H it (by with_unfolding_all rfl) rfl A7.out Tryd.underlying25 (by with_unfolding_all rfl) (by with_unfolding_all kernel_rfl) ?_)))
    refine (KV1.out _).mono ?_
    rintro e w8 ⟨rfl, b8⟩
    have X8 := Lib.hid (Blk.below X7.out b8 X7.out.lt)
    have X8 : Hid (ItAt w8 H2 (badI it nv)) := X8
    have B8 := Lib.hid (B7.out.trans (b8.mono B7.out.size))
    clear b8 A7 X7 B7
    go_wp2_with (first | ((with_reducible refine gd_item 25 (.tmp 8) H2 (badI it nv) (by with_unfolding_all rfl) rfl X8.out Tryd.underlying25 (by with_unfolding_all rfl) (by with_unfolding_all kernel_rfl) ?_)))
    refine (KV2.out _).mono ?_
    rintro e w9 ⟨rfl, b9⟩
    have B9 := Lib.hid (B8.out.trans (b9.mono B8.out.size))
    clear b9 X8 B8
    go_wp2_with fail
    go_ret
    exact ⟨rfl, B9.out⟩
  · skip
    have k1 : (it.kind == 1) = false := by rw [hk]; rfl
    have k2 : (it.kind == 2) = false := by rw [hk]; rfl
    have k4 : (it.kind == 4) = true := by rw [hk]; rfl
    have k5 : (it.kind == 5) = false := by rw [hk]; rfl
    have k3 : (it.kind == 3) = false := by rw [hk]; rfl
    have k6 : (it.kind == 6) = false := by rw [hk]; rfl
    have k11 : (it.kind == 11) = false := by rw [hk]; rfl
    have k7 : (it.kind == 7) = false := by rw [hk]; rfl
    have k8 : (it.kind == 8) = false := by rw [hk]; rfl
    have eb : badI it nv = { it with speed := nv } := by unfold badI; simp [hk]
    have f := Blk.frozen X7h.out 20
    have q := X7h.out.c20
    have XX := Lib.hid (show ItAt (W7.setCell ⟨H2, 20, none⟩ (.int .i64 nv)) H2 (badI it nv) by rw [eb]; exact X7h.out.s20 nv)
    have AX := Lib.hid (ItAt.far A7h.out (p := ⟨H2, 20, none⟩) (by show H ≠ H2; omega) (.int .i64 nv))
    have BX := Lib.hid (B7h.out.setCell (p := ⟨H2, 20, none⟩) (by show w.heap.size ≤ H2; omega) (.int .i64 nv))
    clear hk eb A7h X7h B7h
    go_wp2_with fail
    refine (awake_true _ (HE0.out.below BX.out hlow)).mono ?_
    rintro e w7 ⟨rfl, b7⟩
    have A7 := Lib.hid (Blk.below AX.out b7 AX.out.lt)
    have X7 := Lib.hid (Blk.below XX.out b7 XX.out.lt)
    have B7 := Lib.hid (BX.out.trans (b7.mono BX.out.size))
    have A7 : Hid (ItAt w7 H it) := A7
    have X7 : Hid (ItAt w7 H2 (badI it nv)) := X7
    clear b7 AX XX BX
    have KV1 := Lib.hid (fun W => cvalid_any it W)
    rw [HVL.out] at KV1
    have KV2 := Lib.hid (fun W => cvalid_any (badI it nv) W)
    rw [bad_false it nv HN.out] at KV2
    go_wp2_with (first | ((with_reducible refine gd_item 25 (.tmp 6) H it (by with_unfolding_all rfl) rfl A7.out Tryd.underlying25 (by with_unfolding_all rfl) (by with_unfolding_all kernel_rfl) ?_)))
    refine (KV1.out _).mono ?_
    rintro e w8 ⟨rfl, b8⟩
    have X8 := Lib.hid (Blk.below X7.out b8 X7.out.lt)
    have X8 : Hid (ItAt w8 H2 (badI it nv)) := X8
    have B8 := Lib.hid (B7.out.trans (b8.mono B7.out.size))
    clear b8 A7 X7 B7
    go_wp2_with (first | ((with_reducible refine gd_item 25 (.tmp 8) H2 (badI it nv) (by with_unfolding_all rfl) rfl X8.out Tryd.underlying25 (by with_unfolding_all rfl) (by with_unfolding_all kernel_rfl) ?_)))
    refine (KV2.out _).mono ?_
    rintro e w9 ⟨rfl, b9⟩
    have B9 := Lib.hid (B8.out.trans (b9.mono B8.out.size))
    clear b9 X8 B8
    go_wp2_with fail
    go_ret
    exact ⟨rfl, B9.out⟩
  · skip
    have k1 : (it.kind == 1) = false := by rw [hk]; rfl
    have k2 : (it.kind == 2) = false := by rw [hk]; rfl
    have k4 : (it.kind == 4) = false := by rw [hk]; rfl
    have k5 : (it.kind == 5) = true := by rw [hk]; rfl
    have k3 : (it.kind == 3) = false := by rw [hk]; rfl
    have k6 : (it.kind == 6) = false := by rw [hk]; rfl
    have k11 : (it.kind == 11) = false := by rw [hk]; rfl
    have k7 : (it.kind == 7) = false := by rw [hk]; rfl
    have k8 : (it.kind == 8) = false := by rw [hk]; rfl
    have eb : badI it nv = { it with speed := nv } := by unfold badI; simp [hk]
    have f := Blk.frozen X7h.out 20
    have q := X7h.out.c20
    have XX := Lib.hid (show ItAt (W7.setCell ⟨H2, 20, none⟩ (.int .i64 nv)) H2 (badI it nv) by rw [eb]; exact X7h.out.s20 nv)
    have AX := Lib.hid (ItAt.far A7h.out (p := ⟨H2, 20, none⟩) (by show H ≠ H2; omega) (.int .i64 nv))
    have BX := Lib.hid (B7h.out.setCell (p := ⟨H2, 20, none⟩) (by show w.heap.size ≤ H2; omega) (.int .i64 nv))
    clear hk eb A7h X7h B7h
    go_wp2_with fail
    refine (awake_true _ (HE0.out.below BX.out hlow)).mono ?_
    rintro e w7 ⟨rfl, b7⟩
    have A7 := Lib.hid (Blk.below AX.out b7 AX.out.lt)
    have X7 := Lib.hid (Blk.below XX.out b7 XX.out.lt)
    have B7 := Lib.hid (BX.out.trans (b7.mono BX.out.size))
    have A7 : Hid (ItAt w7 H it) := A7
    have X7 : Hid (ItAt w7 H2 (badI it nv)) := X7
    clear b7 AX XX BX
    have KV1 := Lib.hid (fun W => cvalid_any it W)
    rw [HVL.out] at KV1
    have KV2 := Lib.hid (fun W => cvalid_any (badI it nv) W)
    rw [bad_false it nv HN.out] at KV2
    go_wp2_with (first | ((with_reducible refine gd_item 25 (.tmp 6) H it (by with_unfolding_all rfl) rfl A7.out Tryd.underlying25 (by with_unfolding_all rfl) (by with_unfolding_all kernel_rfl) ?_)))
    refine (KV1.out _).mono ?_
    rintro e w8 ⟨rfl, b8⟩
    have X8 := Lib.hid (Blk.below X7.out b8 X7.out.lt)
    have X8 : Hid (ItAt w8 H2 (badI it nv)) := X8
    have B8 := Lib.hid (B7.out.trans (b8.mono B7.out.size))
    clear b8 A7 X7 B7
    go_wp2_with (first | ((with_reducible refine gd_item 25 (.tmp 8) H2 (badI it nv) (by with_unfolding_all rfl) rfl X8.out Tryd.underlying25 (by with_unfolding_all rfl) (by with_unfolding_all kernel_rfl) ?_)))
    refine (KV2.out _).mono ?_
    rintro e w9 ⟨rfl, b9⟩
    have B9 := Lib.hid (B8.out.trans (b9.mono B8.out.size))
    clear b9 X8 B8
    go_wp2_with fail
    go_ret
    exact ⟨rfl, B9.out⟩
  · skip
    have k1 : (it.kind == 1) = false := by rw [hk]; rfl
    have k2 : (it.kind == 2) = false := by rw [hk]; rfl
    have k4 : (it.kind == 4) = false := by rw [hk]; rfl
    have k5 : (it.kind == 5) = false := by rw [hk]; rfl
    have k3 : (it.kind == 3) = false := by rw [hk]; rfl
    have k6 : (it.kind == 6) = true := by rw [hk]; rfl
    have k11 : (it.kind == 11) = false := by rw [hk]; rfl
    have k7 : (it.kind == 7) = false := by rw [hk]; rfl
    have k8 : (it.kind == 8) = false := by rw [hk]; rfl
    have eb : badI it nv = { it with blend := nv } := by unfold badI; simp [hk]
    have f := Blk.frozen X7h.out 18
    have q := X7h.out.c18
    have XX := Lib.hid (show ItAt (W7.setCell ⟨H2, 18, none⟩ (.int .i64 nv)) H2 (badI it nv) by rw [eb]; exact X7h.out.s18 nv)
    have AX := Lib.hid (ItAt.far A7h.out (p := ⟨H2, 18, none⟩) (by show H ≠ H2; omega) (.int .i64 nv))
    have BX := Lib.hid (B7h.out.setCell (p := ⟨H2, 18, none⟩) (by show w.heap.size ≤ H2; omega) (.int .i64 nv))
    clear hk eb A7h X7h B7h
    go_wp2_with fail
    refine (awake_true _ (HE0.out.below BX.out hlow)).mono ?_
    rintro e w7 ⟨rfl, b7⟩
    have A7 := Lib.hid (Blk.below AX.out b7 AX.out.lt)
    have X7 := Lib.hid (Blk.below XX.out b7 XX.out.lt)
    have B7 := Lib.hid (BX.out.trans (b7.mono BX.out.size))
    have A7 : Hid (ItAt w7 H it) := A7
    have X7 : Hid (ItAt w7 H2 (badI it nv)) := X7
    clear b7 AX XX BX
    have KV1 := Lib.hid (fun W => cvalid_any it W)
    rw [HVL.out] at KV1
    have KV2 := Lib.hid (fun W => cvalid_any (badI it nv) W)
    rw [bad_false it nv HN.out] at KV2
    go_wp2_with (first | ((with_reducible refine gd_item 25 (.tmp 6) H it (by with_unfolding_all rfl) rfl A7.out Tryd.underlying25 (by with_unfolding_all rfl) (by with_unfolding_all kernel_rfl) ?_)))
    refine (KV1.out _).mono ?_
    rintro e w8 ⟨rfl, b8⟩
    have X8 := Lib.hid (Blk.below X7.out b8 X7.out.lt)
    have X8 : Hid (ItAt w8 H2 (badI it nv)) := X8
    have B8 := Lib.hid (B7.out.trans (b8.mono B7.out.size))
    clear b8 A7 X7 B7
    go_wp2_with (first | ((with_reducible refine gd_item 25 (.tmp 8) H2 (badI it nv) (by with_unfolding_all rfl) rfl X8.out Tryd.underlying25 (by with_unfolding_all rfl) (by with_unfolding_all kernel_rfl) ?_)))
    refine (KV2.out _).mono ?_
    rintro e w9 ⟨rfl, b9⟩
    have B9 := Lib.hid (B8.out.trans (b9.mono B8.out.size))
    clear b9 X8 B8
    go_wp2_with fail
    go_ret
    exact ⟨rfl, B9.out⟩
  · skip
    have k1 : (it.kind == 1) = false := by rw [hk]; rfl
    have k2 : (it.kind == 2) = false := by rw [hk]; rfl
    have k4 : (it.kind == 4) = false := by rw [hk]; rfl
    have k5 : (it.kind == 5) = false := by rw [hk]; rfl
    have k3 : (it.kind == 3) = false := by rw [hk]; rfl
    have k6 : (it.kind == 6) = false := by rw [hk]; rfl
    have k11 : (it.kind == 11) = false := by rw [hk]; rfl
    have k7 : (it.kind == 7) = true := by rw [hk]; rfl
    have k8 : (it.kind == 8) = false := by rw [hk]; rfl
    have eb : badI it nv = { it with tx := nv } := by unfold badI; simp [hk]
    have f := Blk.frozen X7h.out 5
    have q := X7h.out.c5
    have XX := Lib.hid (show ItAt (W7.setCell ⟨H2, 5, none⟩ (.int .i64 nv)) H2 (badI it nv) by rw [eb]; exact X7h.out.s5 nv)
    have AX := Lib.hid (ItAt.far A7h.out (p := ⟨H2, 5, none⟩) (by show H ≠ H2; omega) (.int .i64 nv))
    have BX := Lib.hid (B7h.out.setCell (p := ⟨H2, 5, none⟩) (by show w.heap.size ≤ H2; omega) (.int .i64 nv))
    clear hk eb A7h X7h B7h
    go_wp2_with fail
    refine (awake_true _ (HE0.out.below BX.out hlow)).mono ?_
    rintro e w7 ⟨rfl, b7⟩
    have A7 := Lib.hid (Blk.below AX.out b7 AX.out.lt)
    have X7 := Lib.hid (Blk.below XX.out b7 XX.out.lt)
    have B7 := Lib.hid (BX.out.trans (b7.mono BX.out.size))
    have A7 : Hid (ItAt w7 H it) := A7
    have X7 : Hid (ItAt w7 H2 (badI it nv)) := X7
    clear b7 AX XX BX
    have KV1 := Lib.hid (fun W => cvalid_any it W)
    rw [HVL.out] at KV1
    have KV2 := Lib.hid (fun W => cvalid_any (badI it nv) W)
    rw [bad_false it nv HN.out] at KV2
    go_wp2_with (first | ((with_reducible refine gd_item 25 (.tmp 6) H it (by with_unfolding_all rfl) rfl A7.out Tryd.underlying25 (by with_unfolding_all rfl) (by with_unfolding_all kernel_rfl) ?_)))
    refine (KV1.out _).mono ?_
    rintro e w8 ⟨rfl, b8⟩
    have X8 := Lib.hid (Blk.below X7.out b8 X7.out.lt)
    have X8 : Hid (ItAt w8 H2 (badI it nv)) := X8
    have B8 := Lib.hid (B7.out.trans (b8.mono B7.out.size))
    clear b8 A7 X7 B7
    go_wp2_with (first | ((with_reducible refine gd_item 25 (.tmp 8) H2 (badI it nv) (by with_unfolding_all rfl) rfl X8.out Tryd.underlying25 (by with_unfolding_all rfl) (by with_unfolding_all kernel_rfl) ?_)))
    refine (KV2.out _).mono ?_
    rintro e w9 ⟨rfl, b9⟩
    have B9 := Lib.hid (B8.out.trans (b9.mono B8.out.size))
    clear b9 X8 B8
    go_wp2_with fail
    go_ret
    exact ⟨rfl, B9.out⟩
  · skip
    have k1 : (it.kind == 1) = false := by rw [hk]; rfl
    have k2 : (it.kind == 2) = false := by rw [hk]; rfl
    have k4 : (it.kind == 4) = false := by rw [hk]; rfl
    have k5 : (it.kind == 5) = false := by rw [hk]; rfl
    have k3 : (it.kind == 3) = false := by rw [hk]; rfl
    have k6 : (it.kind == 6) = false := by rw [hk]; rfl
    have k11 : (it.kind == 11) = false := by rw [hk]; rfl
    have k7 : (it.kind == 7) = false := by rw [hk]; rfl
    have k8 : (it.kind == 8) = true := by rw [hk]; rfl
    have eb : badI it nv = { it with tx := nv } := by unfold badI; simp [hk]
    have f := Blk.frozen X7h.out 5
    have q := X7h.out.c5
    have XX := Lib.hid (show ItAt (W7.setCell ⟨H2, 5, none⟩ (.int .i64 nv)) H2 (badI it nv) by rw [eb]; exact X7h.out.s5 nv)
    have AX := Lib.hid (ItAt.far A7h.out (p := ⟨H2, 5, none⟩) (by show H ≠ H2; omega) (.int .i64 nv))
    have BX := Lib.hid (B7h.out.setCell (p := ⟨H2, 5, none⟩) (by show w.heap.size ≤ H2; omega) (.int .i64 nv))
    clear hk eb A7h X7h B7h
    go_wp2_with fail
    refine (awake_true _ (HE0.out.below BX.out hlow)).mono ?_
    rintro e w7 ⟨rfl, b7⟩
    have A7 := Lib.hid (Blk.below AX.out b7 AX.out.lt)
    have X7 := Lib.hid (Blk.below XX.out b7 XX.out.lt)
    have B7 := Lib.hid (BX.out.trans (b7.mono BX.out.size))
    have A7 : Hid (ItAt w7 H it) := A7
    have X7 : Hid (ItAt w7 H2 (badI it nv)) := X7
    clear b7 AX XX BX
    have KV1 := Lib.hid (fun W => cvalid_any it W)
    rw [HVL.out] at KV1
    have KV2 := Lib.hid (fun W => cvalid_any (badI it nv) W)
    rw [bad_false it nv HN.out] at KV2
    go_wp2_with (first | ((with_reducible refine gd_item 25 (.tmp 6) H it (by with_unfolding_all rfl) rfl A7.out Tryd.underlying25 (by with_unfolding_all rfl) (by with_unfolding_all kernel_rfl) ?_)))
    refine (KV1.out _).mono ?_
    rintro e w8 ⟨rfl, b8⟩
    have X8 := Lib.hid (Blk.below X7.out b8 X7.out.lt)
    have X8 : Hid (ItAt w8 H2 (badI it nv)) := X8
    have B8 := Lib.hid (B7.out.trans (b8.mono B7.out.size))
    clear b8 A7 X7 B7
    go_wp2_with (first | ((with_reducible refine gd_item 25 (.tmp 8) H2 (badI it nv) (by with_unfolding_all rfl) rfl X8.out Tryd.underlying25 (by with_unfolding_all rfl) (by with_unfolding_all kernel_rfl) ?_)))
    refine (KV2.out _).mono ?_
    rintro e w9 ⟨rfl, b9⟩
    have B9 := Lib.hid (B8.out.trans (b9.mono B8.out.size))
    clear b9 X8 B8
    go_wp2_with fail
    go_ret
    exact ⟨rfl, B9.out⟩
  · skip
    have k1 : (it.kind == 1) = false := by rw [hk]; rfl
    have k2 : (it.kind == 2) = false := by rw [hk]; rfl
    have k4 : (it.kind == 4) = false := by rw [hk]; rfl
    have k5 : (it.kind == 5) = false := by rw [hk]; rfl
    have k3 : (it.kind == 3) = false := by rw [hk]; rfl
    have k6 : (it.kind == 6) = false := by rw [hk]; rfl
    have k11 : (it.kind == 11) = false := by rw [hk]; rfl
    have k7 : (it.kind == 7) = false := by rw [hk]; rfl
    have k8 : (it.kind == 8) = false := by rw [hk]; rfl
    have eb : badI it nv = { it with dir := 1 } := by unfold badI; simp [hk]
    have f := Blk.frozen X7h.out 12
    have q := X7h.out.c12
    have XX := Lib.hid (show ItAt (W7.setCell ⟨H2, 12, none⟩ (.int .i64 1)) H2 (badI it nv) by rw [eb]; exact X7h.out.s12 1)
    have AX := Lib.hid (ItAt.far A7h.out (p := ⟨H2, 12, none⟩) (by show H ≠ H2; omega) (.int .i64 1))
    have BX := Lib.hid (B7h.out.setCell (p := ⟨H2, 12, none⟩) (by show w.heap.size ≤ H2; omega) (.int .i64 1))
    clear hk eb A7h X7h B7h
    go_wp2_with fail
    refine (awake_true _ (HE0.out.below BX.out hlow)).mono ?_
    rintro e w7 ⟨rfl, b7⟩
    have A7 := Lib.hid (Blk.below AX.out b7 AX.out.lt)
    have X7 := Lib.hid (Blk.below XX.out b7 XX.out.lt)
    have B7 := Lib.hid (BX.out.trans (b7.mono BX.out.size))
    have A7 : Hid (ItAt w7 H it) := A7
    have X7 : Hid (ItAt w7 H2 (badI it nv)) := X7
    clear b7 AX XX BX
    have KV1 := Lib.hid (fun W => cvalid_any it W)
    rw [HVL.out] at KV1
    have KV2 := Lib.hid (fun W => cvalid_any (badI it nv) W)
    rw [bad_false it nv HN.out] at KV2
    go_wp2_with (first | ((with_reducible refine gd_item 25 (.tmp 6) H it (by with_unfolding_all rfl) rfl A7.out Tryd.underlying25 (by with_unfolding_all rfl) (by with_unfolding_all kernel_rfl) ?_)))
    refine (KV1.out _).mono ?_
    rintro e w8 ⟨rfl, b8⟩
    have X8 := Lib.hid (Blk.below X7.out b8 X7.out.lt)
    have X8 : Hid (ItAt w8 H2 (badI it nv)) := X8
    have B8 := Lib.hid (B7.out.trans (b8.mono B7.out.size))
    clear b8 A7 X7 B7
    go_wp2_with (first | ((with_reducible refine gd_item 25 (.tmp 8) H2 (badI it nv) (by with_unfolding_all rfl) rfl X8.out Tryd.underlying25 (by with_unfolding_all rfl) (by with_unfolding_all kernel_rfl) ?_)))
    refine (KV2.out _).mono ?_
    rintro e w9 ⟨rfl, b9⟩
    have B9 := Lib.hid (B8.out.trans (b9.mono B8.out.size))
    clear b9 X8 B8
    go_wp2_with fail
    go_ret
    exact ⟨rfl, B9.out⟩
  · skip
    have k1 : (it.kind == 1) = false := by rw [hk]; rfl
    have k2 : (it.kind == 2) = false := by rw [hk]; rfl
    have k4 : (it.kind == 4) = false := by rw [hk]; rfl
    have k5 : (it.kind == 5) = false := by rw [hk]; rfl
    have k3 : (it.kind == 3) = false := by rw [hk]; rfl
    have k6 : (it.kind == 6) = false := by rw [hk]; rfl
    have k11 : (it.kind == 11) = false := by rw [hk]; rfl
    have k7 : (it.kind == 7) = false := by rw [hk]; rfl
    have k8 : (it.kind == 8) = false := by rw [hk]; rfl
    have eb : badI it nv = { it with dir := 1 } := by unfold badI; simp [hk]
    have f := Blk.frozen X7h.out 12
    have q := X7h.out.c12
    have XX := Lib.hid (show ItAt (W7.setCell ⟨H2, 12, none⟩ (.int .i64 1)) H2 (badI it nv) by rw [eb]; exact X7h.out.s12 1)
    have AX := Lib.hid (ItAt.far A7h.out (p := ⟨H2, 12, none⟩) (by show H ≠ H2; omega) (.int .i64 1))
    have BX := Lib.hid (B7h.out.setCell (p := ⟨H2, 12, none⟩) (by show w.heap.size ≤ H2; omega) (.int .i64 1))
    clear hk eb A7h X7h B7h
    go_wp2_with fail
    refine (awake_true _ (HE0.out.below BX.out hlow)).mono ?_
    rintro e w7 ⟨rfl, b7⟩
    have A7 := Lib.hid (Blk.below AX.out b7 AX.out.lt)
    have X7 := Lib.hid (Blk.below XX.out b7 XX.out.lt)
    have B7 := Lib.hid (BX.out.trans (b7.mono BX.out.size))
    have A7 : Hid (ItAt w7 H it) := A7
    have X7 : Hid (ItAt w7 H2 (badI it nv)) := X7
    clear b7 AX XX BX
    have KV1 := Lib.hid (fun W => cvalid_any it W)
    rw [HVL.out] at KV1
    have KV2 := Lib.hid (fun W => cvalid_any (badI it nv) W)
    rw [bad_false it nv HN.out] at KV2
    go_wp2_with (first | ((with_reducible refine gd_item 25 (.tmp 6) H it (by with_unfolding_all rfl) rfl A7.out Tryd.underlying25 (by with_unfolding_all rfl) (by with_unfolding_all kernel_rfl) ?_)))
    refine (KV1.out _).mono ?_
    rintro e w8 ⟨rfl, b8⟩
    have X8 := Lib.hid (Blk.below X7.out b8 X7.out.lt)
    have X8 : Hid (ItAt w8 H2 (badI it nv)) := X8
    have B8 := Lib.hid (B7.out.trans (b8.mono B7.out.size))
    clear b8 A7 X7 B7
    go_wp2_with (first | ((with_reducible refine gd_item 25 (.tmp 8) H2 (badI it nv) (by with_unfolding_all rfl) rfl X8.out Tryd.underlying25 (by with_unfolding_all rfl) (by with_unfolding_all kernel_rfl) ?_)))
    refine (KV2.out _).mono ?_
    rintro e w9 ⟨rfl, b9⟩
    have B9 := Lib.hid (B8.out.trans (b9.mono B8.out.size))
    clear b9 X8 B8
    go_wp2_with fail
    go_ret
    exact ⟨rfl, B9.out⟩
  · skip
    have k1 : (it.kind == 1) = false := by rw [hk]; rfl
    have k2 : (it.kind == 2) = false := by rw [hk]; rfl
    have k4 : (it.kind == 4) = false := by rw [hk]; rfl
    have k5 : (it.kind == 5) = false := by rw [hk]; rfl
    have k3 : (it.kind == 3) = false := by rw [hk]; rfl
    have k6 : (it.kind == 6) = false := by rw [hk]; rfl
    have k11 : (it.kind == 11) = true := by rw [hk]; rfl
    have k7 : (it.kind == 7) = false := by rw [hk]; rfl
    have k8 : (it.kind == 8) = false := by rw [hk]; rfl
    have eb : badI it nv = { it with blend := nv } := by unfold badI; simp [hk]
    have f := Blk.frozen X7h.out 18
    have q := X7h.out.c18
    have XX := Lib.hid (show ItAt (W7.setCell ⟨H2, 18, none⟩ (.int .i64 nv)) H2 (badI it nv) by rw [eb]; exact X7h.out.s18 nv)
    have AX := Lib.hid (ItAt.far A7h.out (p := ⟨H2, 18, none⟩) (by show H ≠ H2; omega) (.int .i64 nv))
    have BX := Lib.hid (B7h.out.setCell (p := ⟨H2, 18, none⟩) (by show w.heap.size ≤ H2; omega) (.int .i64 nv))
    clear hk eb A7h X7h B7h
    go_wp2_with fail
    refine (awake_true _ (HE0.out.below BX.out hlow)).mono ?_
    rintro e w7 ⟨rfl, b7⟩
    have A7 := Lib.hid (Blk.below AX.out b7 AX.out.lt)
    have X7 := Lib.hid (Blk.below XX.out b7 XX.out.lt)
    have B7 := Lib.hid (BX.out.trans (b7.mono BX.out.size))
    have A7 : Hid (ItAt w7 H it) := A7
    have X7 : Hid (ItAt w7 H2 (badI it nv)) := X7
    clear b7 AX XX BX
    have KV1 := Lib.hid (fun W => cvalid_any it W)
    rw [HVL.out] at KV1
    have KV2 := Lib.hid (fun W => cvalid_any (badI it nv) W)
    rw [bad_false it nv HN.out] at KV2
    go_wp2_with (first | ((with_reducible refine gd_item 25 (.tmp 6) H it (by with_unfolding_all rfl) rfl A7.out Tryd.underlying25 (by with_unfolding_all rfl) (by with_unfolding_all kernel_rfl) ?_)))
    refine (KV1.out _).mono ?_
    rintro e w8 ⟨rfl, b8⟩
    have X8 := Lib.hid (Blk.below X7.out b8 X7.out.lt)
    have X8 : Hid (ItAt w8 H2 (badI it nv)) := X8
    have B8 := Lib.hid (B7.out.trans (b8.mono B7.out.size))
    clear b8 A7 X7 B7
    go_wp2_with (first | ((with_reducible refine gd_item 25 (.tmp 8) H2 (badI it nv) (by with_unfolding_all rfl) rfl X8.out Tryd.underlying25 (by with_unfolding_all rfl) (by with_unfolding_all kernel_rfl) ?_)))
    refine (KV2.out _).mono ?_
    rintro e w9 ⟨rfl, b9⟩
    have B9 := Lib.hid (B8.out.trans (b9.mono B8.out.size))
    clear b9 X8 B8
    go_wp2_with fail
    go_ret
    exact ⟨rfl, B9.out⟩
  · skip
    have k1 : (it.kind == 1) = false := by rw [hk]; rfl
    have k2 : (it.kind == 2) = false := by rw [hk]; rfl
    have k4 : (it.kind == 4) = false := by rw [hk]; rfl
    have k5 : (it.kind == 5) = false := by rw [hk]; rfl
    have k3 : (it.kind == 3) = false := by rw [hk]; rfl
    have k6 : (it.kind == 6) = false := by rw [hk]; rfl
    have k11 : (it.kind == 11) = false := by rw [hk]; rfl
    have k7 : (it.kind == 7) = false := by rw [hk]; rfl
    have k8 : (it.kind == 8) = false := by rw [hk]; rfl
    have eb : badI it nv = { it with dir := 1 } := by unfold badI; simp [hk]
    have f := Blk.frozen X7h.out 12
    have q := X7h.out.c12
    have XX := Lib.hid (show ItAt (W7.setCell ⟨H2, 12, none⟩ (.int .i64 1)) H2 (badI it nv) by rw [eb]; exact X7h.out.s12 1)
    have AX := Lib.hid (ItAt.far A7h.out (p := ⟨H2, 12, none⟩) (by show H ≠ H2; omega) (.int .i64 1))
    have BX := Lib.hid (B7h.out.setCell (p := ⟨H2, 12, none⟩) (by show w.heap.size ≤ H2; omega) (.int .i64 1))
    clear hk eb A7h X7h B7h
    go_wp2_with fail
    refine (awake_true _ (HE0.out.below BX.out hlow)).mono ?_
    rintro e w7 ⟨rfl, b7⟩
    have A7 := Lib.hid (Blk.below AX.out b7 AX.out.lt)
    have X7 := Lib.hid (Blk.below XX.out b7 XX.out.lt)
    have B7 := Lib.hid (BX.out.trans (b7.mono BX.out.size))
    have A7 : Hid (ItAt w7 H it) := A7
    have X7 : Hid (ItAt w7 H2 (badI it nv)) := X7
    clear b7 AX XX BX
    have KV1 := Lib.hid (fun W => cvalid_any it W)
    rw [HVL.out] at KV1
    have KV2 := Lib.hid (fun W => cvalid_any (badI it nv) W)
    rw [bad_false it nv HN.out] at KV2
    go_wp2_with (first | ((with_reducible refine gd_item 25 (.tmp 6) H it (by with_unfolding_all rfl) rfl A7.out Tryd.underlying25 (by with_unfolding_all rfl) (by with_unfolding_all kernel_rfl) ?_)))
    refine (KV1.out _).mono ?_
    rintro e w8 ⟨rfl, b8⟩
    have X8 := Lib.hid (Blk.below X7.out b8 X7.out.lt)
    have X8 : Hid (ItAt w8 H2 (badI it nv)) := X8
    have B8 := Lib.hid (B7.out.trans (b8.mono B7.out.size))
    clear b8 A7 X7 B7
    go_wp2_with (first | ((with_reducible refine gd_item 25 (.tmp 8) H2 (badI it nv) (by with_unfolding_all rfl) rfl X8.out Tryd.underlying25 (by with_unfolding_all rfl) (by with_unfolding_all kernel_rfl) ?_)))
    refine (KV2.out _).mono ?_
    rintro e w9 ⟨rfl, b9⟩
    have B9 := Lib.hid (B8.out.trans (b9.mono B8.out.size))
    clear b9 X8 B8
    go_wp2_with fail
    go_ret
    exact ⟨rfl, B9.out⟩
  · skip
    have k1 : (it.kind == 1) = false := by rw [hk]; rfl
    have k2 : (it.kind == 2) = false := by rw [hk]; rfl
    have k4 : (it.kind == 4) = false := by rw [hk]; rfl
    have k5 : (it.kind == 5) = false := by rw [hk]; rfl
    have k3 : (it.kind == 3) = false := by rw [hk]; rfl
    have k6 : (it.kind == 6) = false := by rw [hk]; rfl
    have k11 : (it.kind == 11) = false := by rw [hk]; rfl
    have k7 : (it.kind == 7) = false := by rw [hk]; rfl
    have k8 : (it.kind == 8) = false := by rw [hk]; rfl
    have eb : badI it nv = { it with dir := 1 } := by unfold badI; simp [hk]
    have f := Blk.frozen X7h.out 12
    have q := X7h.out.c12
    have XX := Lib.hid (show ItAt (W7.setCell ⟨H2, 12, none⟩ (.int .i64 1)) H2 (badI it nv) by rw [eb]; exact X7h.out.s12 1)
    have AX := Lib.hid (ItAt.far A7h.out (p := ⟨H2, 12, none⟩) (by show H ≠ H2; omega) (.int .i64 1))
    have BX := Lib.hid (B7h.out.setCell (p := ⟨H2, 12, none⟩) (by show w.heap.size ≤ H2; omega) (.int .i64 1))
    clear hk eb A7h X7h B7h
    go_wp2_with fail
    refine (awake_true _ (HE0.out.below BX.out hlow)).mono ?_
    rintro e w7 ⟨rfl, b7⟩
    have A7 := Lib.hid (Blk.below AX.out b7 AX.out.lt)
    have X7 := Lib.hid (Blk.below XX.out b7 XX.out.lt)
    have B7 := Lib.hid (BX.out.trans (b7.mono BX.out.size))
    have A7 : Hid (ItAt w7 H it) := A7
    have X7 : Hid (ItAt w7 H2 (badI it nv)) := X7
    clear b7 AX XX BX
    have KV1 := Lib.hid (fun W => cvalid_any it W)
    rw [HVL.out] at KV1
    have KV2 := Lib.hid (fun W => cvalid_any (badI it nv) W)
    rw [bad_false it nv HN.out] at KV2
    go_wp2_with (first | ((with_reducible refine gd_item 25 (.tmp 6) H it (by with_unfolding_all rfl) rfl A7.out Tryd.underlying25 (by with_unfolding_all rfl) (by with_unfolding_all kernel_rfl) ?_)))
    refine (KV1.out _).mono ?_
    rintro e w8 ⟨rfl, b8⟩
    have X8 := Lib.hid (Blk.below X7.out b8 X7.out.lt)
    have X8 : Hid (ItAt w8 H2 (badI it nv)) := X8
    have B8 := Lib.hid (B7.out.trans (b8.mono B7.out.size))
    clear b8 A7 X7 B7
    go_wp2_with (first | ((with_reducible refine gd_item 25 (.tmp 8) H2 (badI it nv) (by with_unfolding_all rfl) rfl X8.out Tryd.underlying25 (by with_unfolding_all rfl) (by with_unfolding_all kernel_rfl) ?_)))
    refine (KV2.out _).mono ?_
    rintro e w9 ⟨rfl, b9⟩
    have B9 := Lib.hid (B8.out.trans (b9.mono B8.out.size))
    clear b9 X8 B8
    go_wp2_with fail
    go_ret
    exact ⟨rfl, B9.out⟩
  · skip
    have k1 : (it.kind == 1) = false := by rw [hk]; rfl
    have k2 : (it.kind == 2) = false := by rw [hk]; rfl
    have k4 : (it.kind == 4) = false := by rw [hk]; rfl
    have k5 : (it.kind == 5) = false := by rw [hk]; rfl
    have k3 : (it.kind == 3) = false := by rw [hk]; rfl
    have k6 : (it.kind == 6) = false := by rw [hk]; rfl
    have k11 : (it.kind == 11) = false := by rw [hk]; rfl
    have k7 : (it.kind == 7) = false := by rw [hk]; rfl
    have k8 : (it.kind == 8) = false := by rw [hk]; rfl
    have eb : badI it nv = { it with dir := 1 } := by unfold badI; simp [hk]
    have f := Blk.frozen X7h.out 12
    have q := X7h.out.c12
    have XX := Lib.hid (show ItAt (W7.setCell ⟨H2, 12, none⟩ (.int .i64 1)) H2 (badI it nv) by rw [eb]; exact X7h.out.s12 1)
    have AX := Lib.hid (ItAt.far A7h.out (p := ⟨H2, 12, none⟩) (by show H ≠ H2; omega) (.int .i64 1))
    have BX := Lib.hid (B7h.out.setCell (p := ⟨H2, 12, none⟩) (by show w.heap.size ≤ H2; omega) (.int .i64 1))
    clear hk eb A7h X7h B7h
    go_wp2_with fail
    refine (awake_true _ (HE0.out.below BX.out hlow)).mono ?_
    rintro e w7 ⟨rfl, b7⟩
    have A7 := Lib.hid (Blk.below AX.out b7 AX.out.lt)
    have X7 := Lib.hid (Blk.below XX.out b7 XX.out.lt)
    have B7 := Lib.hid (BX.out.trans (b7.mono BX.out.size))
    have A7 : Hid (ItAt w7 H it) := A7
    have X7 : Hid (ItAt w7 H2 (badI it nv)) := X7
    clear b7 AX XX BX
    have KV1 := Lib.hid (fun W => cvalid_any it W)
    rw [HVL.out] at KV1
    have KV2 := Lib.hid (fun W => cvalid_any (badI it nv) W)
    rw [bad_false it nv HN.out] at KV2
    go_wp2_with (first | ((with_reducible refine gd_item 25 (.tmp 6) H it (by with_unfolding_all rfl) rfl A7.out Tryd.underlying25 (by with_unfolding_all rfl) (by with_unfolding_all kernel_rfl) ?_)))
    refine (KV1.out _).mono ?_
    rintro e w8 ⟨rfl, b8⟩
    have X8 := Lib.hid (Blk.below X7.out b8 X7.out.lt)
    have X8 : Hid (ItAt w8 H2 (badI it nv)) := X8
    have B8 := Lib.hid (B7.out.trans (b8.mono B7.out.size))
    clear b8 A7 X7 B7
    go_wp2_with (first | ((with_reducible refine gd_item 25 (.tmp 8) H2 (badI it nv) (by with_unfolding_all rfl) rfl X8.out Tryd.underlying25 (by with_unfolding_all rfl) (by with_unfolding_all kernel_rfl) ?_)))
    refine (KV2.out _).mono ?_
    rintro e w9 ⟨rfl, b9⟩
    have B9 := Lib.hid (B8.out.trans (b9.mono B8.out.size))
    clear b9 X8 B8
    go_wp2_with fail
    go_ret
    exact ⟨rfl, B9.out⟩
end Go.Proofs.YtefdjdipbnnoaaaDoor
