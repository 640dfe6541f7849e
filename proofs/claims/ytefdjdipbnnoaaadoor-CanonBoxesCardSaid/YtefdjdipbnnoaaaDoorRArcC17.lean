/-
  cncref13.Check: any item.
-/
import Derived.Test.YtefdjdipbnnoaaaDoorRArc17
namespace Go.Proofs.YtefdjdipbnnoaaaDoor
open Go Go.RowKit
set_option linter.unusedVariables false
set_option linter.unusedSimpArgs false

attribute [local go_sem] itA_0 itA_1 itA_2 itA_3 itA_4 itA_5 itA_6 itA_7 itA_8 itA_9 itA_10 itA_11 itA_12 itA_13 itA_14 itA_15 itA_16 itA_17 itA_18 itA_19 itA_20 itA_21
set_option maxRecDepth 100000 in
set_option maxHeartbeats 2000000 in
theorem rcheck_any (i : It) (w : World) : Calls Tryd.prog 40 #[.agg (itA i)] w fun e w' => e = .returned (.int .i64 (arcE i)) ∧ Below w.heap.size w w' := by
  have KP := fun W => rplane_any i.plane W
  have K1 := fun W => rwithin_any i.fx i.fy i.fz W
  have K2 := fun W => rwithin_any i.tx i.ty i.tz W
  have K3 := fun W => rwithin_any i.cx i.cy i.cz W
  have K4 := fun W => rheight_any i.plane i.fx i.fy i.fz W
  have K5 := fun W => rheight_any i.plane i.cx i.cy i.cz W
  obtain ⟨ee, he⟩ : ∃ z, arcE i = z := ⟨_, rfl⟩
  have HE := Lib.hid he
  rw [he]
  clear he
  obtain ⟨fh, hfh⟩ : ∃ b, flH i.plane i.fx i.fy i.fz = b := ⟨_, rfl⟩
  obtain ⟨ch, hch⟩ : ∃ b, flH i.plane i.cx i.cy i.cz = b := ⟨_, rfl⟩
  obtain ⟨ok, hok⟩ : ∃ b, flOk i.plane = b := ⟨_, rfl⟩
  obtain ⟨g1, hg1⟩ : ∃ b, withB i.fx i.fy i.fz = b := ⟨_, rfl⟩
  obtain ⟨g2, hg2⟩ : ∃ b, withB i.tx i.ty i.tz = b := ⟨_, rfl⟩
  obtain ⟨g3, hg3⟩ : ∃ b, withB i.cx i.cy i.cz = b := ⟨_, rfl⟩
  rw [hok] at KP
  rw [hg1] at K1
  rw [hg2] at K2
  rw [hg3] at K3
  rw [hfh] at K4
  rw [hch] at K5
  have HOK := Lib.hid hok
  have HFH := Lib.hid hfh
  have HCH := Lib.hid hch
  have G1 := Lib.hid hg1
  have G2 := Lib.hid hg2
  have G3 := Lib.hid hg3
  clear hfh hch hok hg1 hg2 hg3
  let S : World → Prop := fun W => ItAt W w.heap.size i ∧ Below w.heap.size w W
  have hs : S (w.alloc (.cells (itA i) 25)).drew := ⟨Blk.drew (Blk.new _ _ _), by (repeat (first | exact Below.refl _ _ | refine Below.drew ?_ | refine Below.alloc ?_ (by first | exact Nat.le_refl _ | (simp; done) | (simp; omega)) _ | refine Below.setCell ?_ (by first | exact Nat.le_refl _ | (simp; done) | (simp; omega)) _))⟩
  have inst : Nonempty (At S) := ⟨⟨_, hs⟩⟩
  have SB : ∀ W W', S W → Below W.heap.size W W' → S W' := fun W W' h b => ⟨h.1.below b, h.2.trans (b.mono h.2.size)⟩
  have HPL := Lib.hid (fun q : At S => (KP q.w).mono (fun e w' h => (⟨h.1, h.2 ▸ q.ok⟩ : e = .returned (.bool ok) ∧ S w')))
  have H1 := Lib.hid (fun q : At S => (K1 q.w).mono (fun e w' h => (⟨h.1, SB _ _ q.ok h.2⟩ : e = .returned (.bool g1) ∧ S w')))
  have H2 := Lib.hid (fun q : At S => (K2 q.w).mono (fun e w' h => (⟨h.1, SB _ _ q.ok h.2⟩ : e = .returned (.bool g2) ∧ S w')))
  have H3 := Lib.hid (fun q : At S => (K3 q.w).mono (fun e w' h => (⟨h.1, SB _ _ q.ok h.2⟩ : e = .returned (.bool g3) ∧ S w')))
  have H4 := Lib.hid (fun q : At S => (K4 q.w).mono (fun e w' h => (⟨h.1, SB _ _ q.ok h.2⟩ : e = .returned (.int .i64 fh) ∧ S w')))
  have H5 := Lib.hid (fun q : At S => (K5 q.w).mono (fun e w' h => (⟨h.1, SB _ _ q.ok h.2⟩ : e = .returned (.int .i64 ch) ∧ S w')))
  have c0 : ∀ q : At S, q.w.cell? ⟨w.heap.size, 0, none⟩ = some (.int .i64 i.kind) := fun q => q.ok.1.c0
  have c2 : ∀ q : At S, q.w.cell? ⟨w.heap.size, 2, none⟩ = some (.int .i64 i.fx) := fun q => q.ok.1.c2
  have c3 : ∀ q : At S, q.w.cell? ⟨w.heap.size, 3, none⟩ = some (.int .i64 i.fy) := fun q => q.ok.1.c3
  have c4 : ∀ q : At S, q.w.cell? ⟨w.heap.size, 4, none⟩ = some (.int .i64 i.fz) := fun q => q.ok.1.c4
  have c5 : ∀ q : At S, q.w.cell? ⟨w.heap.size, 5, none⟩ = some (.int .i64 i.tx) := fun q => q.ok.1.c5
  have c6 : ∀ q : At S, q.w.cell? ⟨w.heap.size, 6, none⟩ = some (.int .i64 i.ty) := fun q => q.ok.1.c6
  have c7 : ∀ q : At S, q.w.cell? ⟨w.heap.size, 7, none⟩ = some (.int .i64 i.tz) := fun q => q.ok.1.c7
  have c8 : ∀ q : At S, q.w.cell? ⟨w.heap.size, 8, none⟩ = some (.int .i64 i.plane) := fun q => q.ok.1.c8
  have c9 : ∀ q : At S, q.w.cell? ⟨w.heap.size, 9, none⟩ = some (.int .i64 i.cx) := fun q => q.ok.1.c9
  have c10 : ∀ q : At S, q.w.cell? ⟨w.heap.size, 10, none⟩ = some (.int .i64 i.cy) := fun q => q.ok.1.c10
  have c11 : ∀ q : At S, q.w.cell? ⟨w.heap.size, 11, none⟩ = some (.int .i64 i.cz) := fun q => q.ok.1.c11
  have c12 : ∀ q : At S, q.w.cell? ⟨w.heap.size, 12, none⟩ = some (.int .i64 i.dir) := fun q => q.ok.1.c12
  have HFIN : Hid (∀ q : At S, ItAt q.w w.heap.size i ∧ Below w.heap.size w q.w) := Lib.hid (fun q : At S => q.ok)
  clear KP K1 K2 K3 K4 K5 SB
  clear_value S
  go_enter Tryd.func40, Tryd.ntmps40
  by_cases hk : i.kind = 3
  rotate_left
  · have k0 : (i.kind == 3) = false := by simpa using hk
    have k0' : (i.kind != 3) = true := by simpa using hk
    have E : arcE i = 1 := by unfold arcE; rw [if_neg]; simp [arcArg, hk]
    rw [HE.out] at E
    subst E
    go_wp2_with fail
    refine wp_region_at S (by kernel_rfl) (by kernel_rfl) hs ?_
    try simp only [List.append_eq, List.cons_append, List.nil_append]
    repeat go_big_quiet_step (first | with_reducible exact Calls.at_of (HPL.out _) fun e w' h => ⟨h.1, h.2⟩ | with_reducible exact Calls.at_of (H1.out _) fun e w' h => ⟨h.1, h.2⟩ | with_reducible exact Calls.at_of (H2.out _) fun e w' h => ⟨h.1, h.2⟩ | with_reducible exact Calls.at_of (H3.out _) fun e w' h => ⟨h.1, h.2⟩ | with_reducible exact Calls.at_of (H4.out _) fun e w' h => ⟨h.1, h.2⟩ | with_reducible exact Calls.at_of (H5.out _) fun e w' h => ⟨h.1, h.2⟩)
    refine wpQuiet_nil ?_
    rintro _ ⟨p, rfl⟩
    obtain ⟨I7, BEL7⟩ := HFIN.out p
    go_wp2_with fail
    go_ret
    exact ⟨rfl, BEL7⟩
  rw [hk] at c0
  have HK := Lib.hid hk
  clear hk
  cases ok
  · have E : arcE i = 1 := by unfold arcE; rw [if_neg]; simp [arcArg, HOK.out]
    rw [HE.out] at E
    subst E
    go_wp2_with fail
    refine wp_region_at S (by kernel_rfl) (by kernel_rfl) hs ?_
    try simp only [List.append_eq, List.cons_append, List.nil_append]
    repeat go_big_quiet_step (first | with_reducible exact Calls.at_of (HPL.out _) fun e w' h => ⟨h.1, h.2⟩ | with_reducible exact Calls.at_of (H1.out _) fun e w' h => ⟨h.1, h.2⟩ | with_reducible exact Calls.at_of (H2.out _) fun e w' h => ⟨h.1, h.2⟩ | with_reducible exact Calls.at_of (H3.out _) fun e w' h => ⟨h.1, h.2⟩ | with_reducible exact Calls.at_of (H4.out _) fun e w' h => ⟨h.1, h.2⟩ | with_reducible exact Calls.at_of (H5.out _) fun e w' h => ⟨h.1, h.2⟩)
    refine wpQuiet_nil ?_
    rintro _ ⟨p, rfl⟩
    obtain ⟨I7, BEL7⟩ := HFIN.out p
    go_wp2_with fail
    go_ret
    exact ⟨rfl, BEL7⟩
  cases g1
  · have E : arcE i = 1 := by unfold arcE; rw [if_neg]; simp [arcArg, G1.out]
    rw [HE.out] at E
    subst E
    go_wp2_with fail
    refine wp_region_at S (by kernel_rfl) (by kernel_rfl) hs ?_
    try simp only [List.append_eq, List.cons_append, List.nil_append]
    repeat go_big_quiet_step (first | with_reducible exact Calls.at_of (HPL.out _) fun e w' h => ⟨h.1, h.2⟩ | with_reducible exact Calls.at_of (H1.out _) fun e w' h => ⟨h.1, h.2⟩ | with_reducible exact Calls.at_of (H2.out _) fun e w' h => ⟨h.1, h.2⟩ | with_reducible exact Calls.at_of (H3.out _) fun e w' h => ⟨h.1, h.2⟩ | with_reducible exact Calls.at_of (H4.out _) fun e w' h => ⟨h.1, h.2⟩ | with_reducible exact Calls.at_of (H5.out _) fun e w' h => ⟨h.1, h.2⟩)
    refine wpQuiet_nil ?_
    rintro _ ⟨p, rfl⟩
    obtain ⟨I7, BEL7⟩ := HFIN.out p
    go_wp2_with fail
    go_ret
    exact ⟨rfl, BEL7⟩
  cases g2
  · have E : arcE i = 1 := by unfold arcE; rw [if_neg]; simp [arcArg, G2.out]
    rw [HE.out] at E
    subst E
    go_wp2_with fail
    refine wp_region_at S (by kernel_rfl) (by kernel_rfl) hs ?_
    try simp only [List.append_eq, List.cons_append, List.nil_append]
    repeat go_big_quiet_step (first | with_reducible exact Calls.at_of (HPL.out _) fun e w' h => ⟨h.1, h.2⟩ | with_reducible exact Calls.at_of (H1.out _) fun e w' h => ⟨h.1, h.2⟩ | with_reducible exact Calls.at_of (H2.out _) fun e w' h => ⟨h.1, h.2⟩ | with_reducible exact Calls.at_of (H3.out _) fun e w' h => ⟨h.1, h.2⟩ | with_reducible exact Calls.at_of (H4.out _) fun e w' h => ⟨h.1, h.2⟩ | with_reducible exact Calls.at_of (H5.out _) fun e w' h => ⟨h.1, h.2⟩)
    refine wpQuiet_nil ?_
    rintro _ ⟨p, rfl⟩
    obtain ⟨I7, BEL7⟩ := HFIN.out p
    go_wp2_with fail
    go_ret
    exact ⟨rfl, BEL7⟩
  cases g3
  · have E : arcE i = 1 := by unfold arcE; rw [if_neg]; simp [arcArg, G3.out]
    rw [HE.out] at E
    subst E
    go_wp2_with fail
    refine wp_region_at S (by kernel_rfl) (by kernel_rfl) hs ?_
    try simp only [List.append_eq, List.cons_append, List.nil_append]
    repeat go_big_quiet_step (first | with_reducible exact Calls.at_of (HPL.out _) fun e w' h => ⟨h.1, h.2⟩ | with_reducible exact Calls.at_of (H1.out _) fun e w' h => ⟨h.1, h.2⟩ | with_reducible exact Calls.at_of (H2.out _) fun e w' h => ⟨h.1, h.2⟩ | with_reducible exact Calls.at_of (H3.out _) fun e w' h => ⟨h.1, h.2⟩ | with_reducible exact Calls.at_of (H4.out _) fun e w' h => ⟨h.1, h.2⟩ | with_reducible exact Calls.at_of (H5.out _) fun e w' h => ⟨h.1, h.2⟩)
    refine wpQuiet_nil ?_
    rintro _ ⟨p, rfl⟩
    obtain ⟨I7, BEL7⟩ := HFIN.out p
    go_wp2_with fail
    go_ret
    exact ⟨rfl, BEL7⟩
  have hd : i.dir = 1 ∨ i.dir = -1 ∨ (i.dir ≠ 1 ∧ i.dir ≠ -1) := by omega
  rcases hd with hd | hd | ⟨hd1, hd2⟩
  rotate_left 2
  · have k1 : (i.dir == 1) = false := by simpa using hd1
    have k2 : (i.dir == -1) = false := by simpa using hd2
    have k1' : (i.dir != 1) = true := by simpa using hd1
    have k2' : (i.dir != -1) = true := by simpa using hd2
    have E : arcE i = 1 := by unfold arcE; rw [if_neg]; simp [arcArg, hd1, hd2]
    rw [HE.out] at E
    subst E
    go_wp2_with fail
    refine wp_region_at S (by kernel_rfl) (by kernel_rfl) hs ?_
    try simp only [List.append_eq, List.cons_append, List.nil_append]
    repeat go_big_quiet_step (first | with_reducible exact Calls.at_of (HPL.out _) fun e w' h => ⟨h.1, h.2⟩ | with_reducible exact Calls.at_of (H1.out _) fun e w' h => ⟨h.1, h.2⟩ | with_reducible exact Calls.at_of (H2.out _) fun e w' h => ⟨h.1, h.2⟩ | with_reducible exact Calls.at_of (H3.out _) fun e w' h => ⟨h.1, h.2⟩ | with_reducible exact Calls.at_of (H4.out _) fun e w' h => ⟨h.1, h.2⟩ | with_reducible exact Calls.at_of (H5.out _) fun e w' h => ⟨h.1, h.2⟩)
    refine wpQuiet_nil ?_
    rintro _ ⟨p, rfl⟩
    obtain ⟨I7, BEL7⟩ := HFIN.out p
    go_wp2_with fail
    go_ret
    exact ⟨rfl, BEL7⟩
  all_goals
    have HD := Lib.hid (show i.dir = 1 ∨ i.dir = -1 by omega)
    rw [hd] at c12
    clear hd
    by_cases hfc : fh = ch
    rotate_left
    · have k1 : (fh == ch) = false := by simpa using hfc
      have E : arcE i = 1 := by
        have : ¬ i.fH = i.cH := fun h => hfc (HFH.out.symm.trans (h.trans HCH.out))
        unfold arcE; rw [if_neg]; simp [arcArg, this]
      rw [HE.out] at E
      subst E
      go_wp2_with fail
      refine wp_region_at S (by kernel_rfl) (by kernel_rfl) hs ?_
      try simp only [List.append_eq, List.cons_append, List.nil_append]
      repeat go_big_quiet_step (first | with_reducible exact Calls.at_of (HPL.out _) fun e w' h => ⟨h.1, h.2⟩ | with_reducible exact Calls.at_of (H1.out _) fun e w' h => ⟨h.1, h.2⟩ | with_reducible exact Calls.at_of (H2.out _) fun e w' h => ⟨h.1, h.2⟩ | with_reducible exact Calls.at_of (H3.out _) fun e w' h => ⟨h.1, h.2⟩ | with_reducible exact Calls.at_of (H4.out _) fun e w' h => ⟨h.1, h.2⟩ | with_reducible exact Calls.at_of (H5.out _) fun e w' h => ⟨h.1, h.2⟩)
      refine wpQuiet_nil ?_
      rintro _ ⟨p, rfl⟩
      obtain ⟨I7, BEL7⟩ := HFIN.out p
      go_wp2_with fail
      go_ret
      exact ⟨rfl, BEL7⟩
    have hEE : ee = if fitB (i.fU - i.cU) (i.fW - i.cW) (i.tU - i.cU) (i.tW - i.cW) i.full then 0 else 12 := by
      rw [← HE.out]
      unfold arcE
      rw [if_pos]
      unfold arcArg
      have h3 : i.fH = i.cH := HFH.out.trans (hfc.trans HCH.out.symm)
      simp [HK.out, HOK.out, G1.out, G2.out, G3.out, HD.out, h3]
    have hF := fl_bd (p := i.plane) G1.out
    have hT := fl_bd (p := i.plane) G2.out
    have hC := fl_bd (p := i.plane) G3.out
    have KS := fun W => rspokes_any i W
    obtain ⟨au, hau⟩ : ∃ z, i.fU - i.cU = z := ⟨_, rfl⟩
    obtain ⟨aw, haw⟩ : ∃ z, i.fW - i.cW = z := ⟨_, rfl⟩
    obtain ⟨bu, hbu⟩ : ∃ z, i.tU - i.cU = z := ⟨_, rfl⟩
    obtain ⟨bw, hbw⟩ : ∃ z, i.tW - i.cW = z := ⟨_, rfl⟩
    have A1 : -4194304 ≤ au ∧ au ≤ 4194304 := by unfold It.fU It.cU at hau; omega
    have A2 : -4194304 ≤ aw ∧ aw ≤ 4194304 := by unfold It.fW It.cW at haw; omega
    have A3 : -4194304 ≤ bu ∧ bu ≤ 4194304 := by unfold It.tU It.cU at hbu; omega
    have A4 : -4194304 ≤ bw ∧ bw ≤ 4194304 := by unfold It.tW It.cW at hbw; omega
    rw [hau, haw, hbu, hbw] at hEE
    have s1 : wS i.fU i.cU = au := by rw [wS_eq (by omega)]; exact hau
    have s2 : wS i.fW i.cW = aw := by rw [wS_eq (by omega)]; exact haw
    have s3 : wS i.tU i.cU = bu := by rw [wS_eq (by omega)]; exact hbu
    have s4 : wS i.tW i.cW = bw := by rw [wS_eq (by omega)]; exact hbw
    rw [s1, s2, s3, s4] at KS
    have KS := Lib.hid KS
    have KFT := Lib.hid (fun W => rfit_any au aw bu bw i.full A1 A2 A3 A4 W)
    obtain ⟨fb, hfb⟩ : ∃ b, fitB au aw bu bw i.full = b := ⟨_, rfl⟩
    rw [hfb] at hEE KFT
    have HEE := Lib.hid hEE
    clear hF hT hC hau haw hbu hbw s1 s2 s3 s4 hEE hfb A1 A2 A3 A4
    subst hfc
    go_wp2_with fail
    refine wp_region_at S (by kernel_rfl) (by kernel_rfl) hs ?_
    try simp only [List.append_eq, List.cons_append, List.nil_append]
    repeat go_big_quiet_step (first | with_reducible exact Calls.at_of (HPL.out _) fun e w' h => ⟨h.1, h.2⟩ | with_reducible exact Calls.at_of (H1.out _) fun e w' h => ⟨h.1, h.2⟩ | with_reducible exact Calls.at_of (H2.out _) fun e w' h => ⟨h.1, h.2⟩ | with_reducible exact Calls.at_of (H3.out _) fun e w' h => ⟨h.1, h.2⟩ | with_reducible exact Calls.at_of (H4.out _) fun e w' h => ⟨h.1, h.2⟩ | with_reducible exact Calls.at_of (H5.out _) fun e w' h => ⟨h.1, h.2⟩)
    refine wpQuiet_nil ?_
    rintro _ ⟨p, rfl⟩
    obtain ⟨I7, BEL7⟩ := HFIN.out p
    clear c0 c2 c3 c4 c5 c6 c7 c8 c9 c10 c11 c12
    generalize p.w = W7 at I7 BEL7 ⊢
    clear HFIN p inst hs HPL H1 H2 H3 H4 H5
    have I7' : W7.heap[w.heap.size]? = some (.cells (itA i) 25 (0, 0)) := I7
    go_wp2_with (first
      | ((with_reducible refine go_load_row 25 (.tmp 1) w.heap.size 25 (itA i) _ rfl I7' Tryd.underlying25 rfl (by kernel_rfl) ?_)))
    refine (KS.out _).mono ?_
    rintro e w8 ⟨rfl, b8⟩
    have I8 : ItAt w8 w.heap.size i := ItAt.below I7 b8
    have BEL8 : Below w.heap.size w w8 := BEL7.trans (b8.mono BEL7.size)
    have l8 : w.heap.size < w8.heap.size := I8.lt
    clear I7 BEL7 b8 I7'
    have c13 := I8.c13
    go_wp2_with fail
    refine (KFT.out _).mono ?_
    rintro e w9 ⟨rfl, b9⟩
    have sz8 := BEL8.size
    have BEL9 : Below w.heap.size w w9 := ((BEL8.alloc (by omega) _).alloc (by simp; omega) _).trans (b9.mono (by simp; omega))
    clear b9 I8 BEL8 c13
    cases fb
    · have EE : ee = 12 := by rw [HEE.out]; rfl
      subst EE
      go_wp2_with fail
      go_ret
      exact ⟨rfl, BEL9⟩
    · have EE : ee = 0 := by rw [HEE.out]; rfl
      subst EE
      go_wp2_with fail
      go_ret
      exact ⟨rfl, BEL9⟩
end Go.Proofs.YtefdjdipbnnoaaaDoor
