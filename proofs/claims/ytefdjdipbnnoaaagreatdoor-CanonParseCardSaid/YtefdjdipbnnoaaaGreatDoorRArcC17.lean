/-
  cncref13.Spokes, Fit, Check: any item.
  cncref13.Check: any item.
-/
import Derived.Test.YtefdjdipbnnoaaaGreatDoorArcC17
import Derived.Test.YtefdjdipbnnoaaaGreatDoorBigC17
import Derived.Test.YtefdjdipbnnoaaaGreatDoorHeldL
namespace Go.Proofs.YtefdjdipbnnoaaaGreatDoor
open Go Go.RowKit
set_option linter.unusedVariables false
set_option linter.unusedSimpArgs false

attribute [local go_sem] itA_0 itA_1 itA_2 itA_3 itA_4 itA_5 itA_6 itA_7 itA_8 itA_9 itA_10 itA_11 itA_12 itA_13 itA_14 itA_15 itA_16 itA_17 itA_18 itA_19 itA_20 itA_21
set_option maxRecDepth 100000 in
set_option maxHeartbeats 1000000 in
theorem rspokes_any (i : It) (w : World) : Calls Tryz.prog 65 #[.agg (itA i)] w fun e w' => e = .returned (.tuple #[.agg #[.int .i64 (wS i.fU i.cU), .int .i64 (wS i.fW i.cW)], .agg #[.int .i64 (wS i.tU i.cU), .int .i64 (wS i.tW i.cW)]]) ∧ Below w.heap.size w w' := by
  have KC := Lib.hid (fun W => rpt_any i.plane i.cx i.cy i.cz W)
  have KF := Lib.hid (fun W => rpt_any i.plane i.fx i.fy i.fz W)
  have KT := Lib.hid (fun W => rpt_any i.plane i.tx i.ty i.tz W)
  unfold It.fU It.cU It.fW It.cW It.tU It.tW
  obtain ⟨cu, hcu⟩ : ∃ b, flU i.plane i.cx i.cy i.cz = b := ⟨_, rfl⟩
  obtain ⟨cw, hcw⟩ : ∃ b, flW i.plane i.cx i.cy i.cz = b := ⟨_, rfl⟩
  obtain ⟨fu, hfu⟩ : ∃ b, flU i.plane i.fx i.fy i.fz = b := ⟨_, rfl⟩
  obtain ⟨fw, hfw⟩ : ∃ b, flW i.plane i.fx i.fy i.fz = b := ⟨_, rfl⟩
  obtain ⟨tu, htu⟩ : ∃ b, flU i.plane i.tx i.ty i.tz = b := ⟨_, rfl⟩
  obtain ⟨tw, htw⟩ : ∃ b, flW i.plane i.tx i.ty i.tz = b := ⟨_, rfl⟩
  rw [hcu, hcw] at KC ⊢
  rw [hfu, hfw] at KF ⊢
  rw [htu, htw] at KT ⊢
  clear hcu hcw hfu hfw htu htw
  have KS1 := fun W => rsubpt_any fu fw cu cw W
  have KS2 := fun W => rsubpt_any tu tw cu cw W
  obtain ⟨s1, h1⟩ : ∃ s, wS fu cu = s := ⟨_, rfl⟩
  obtain ⟨s2, h2⟩ : ∃ s, wS fw cw = s := ⟨_, rfl⟩
  obtain ⟨s3, h3⟩ : ∃ s, wS tu cu = s := ⟨_, rfl⟩
  obtain ⟨s4, h4⟩ : ∃ s, wS tw cw = s := ⟨_, rfl⟩
  rw [h1, h2] at KS1 ⊢
  rw [h3, h4] at KS2 ⊢
  have KS1 := Lib.hid KS1
  have KS2 := Lib.hid KS2
  clear h1 h2 h3 h4
  go_enter Tryz.func65, Tryz.ntmps65
  go_wp2_with fail
  refine (KC.out _).mono ?_
  rintro e w1 ⟨rfl, b1⟩
  have sz1 := b1.size
  simp at sz1
  have I1 : ItAt w1 w.heap.size i := ItAt.below (show ItAt _ w.heap.size i from by unfold ItAt; (repeat (first | exact Blk.new _ _ _ | exact blk_new1 _ _ _ _ | exact blk_new2 _ _ _ _ _ | refine Blk.drew ?_ | refine Blk.alloc ?_ _))) b1
  have R1 : Blk w1 (w.heap.size + 1) 88 #[.int .i64 0, .int .i64 0] := Blk.below (by (repeat (first | exact Blk.new _ _ _ | exact blk_new1 _ _ _ _ | exact blk_new2 _ _ _ _ _ | refine Blk.drew ?_ | refine Blk.alloc ?_ _))) b1 (by first | (simp; done) | (simp; omega))
  have R2 : Blk w1 (w.heap.size + 2) 88 #[.int .i64 0, .int .i64 0] := Blk.below (by (repeat (first | exact Blk.new _ _ _ | exact blk_new1 _ _ _ _ | exact blk_new2 _ _ _ _ _ | refine Blk.drew ?_ | refine Blk.alloc ?_ _))) b1 (by simp)
  have BEL1 : Below w.heap.size w w1 := (show Below w.heap.size w _ by (repeat (first | exact Below.refl _ _ | refine Below.drew ?_ | refine Below.alloc ?_ (by first | exact Nat.le_refl _ | (simp; done) | (simp; omega)) _ | refine Below.setCell ?_ (by first | exact Nat.le_refl _ | (simp; done) | (simp; omega)) _))).trans (b1.mono (by simp; omega))
  clear b1
  go_wp2_with fail
  obtain ⟨gc, hgc⟩ : ∃ b, w1.heap.size = b := ⟨_, rfl⟩
  refine wp_told (fun W => (ItAt W w.heap.size i ∧ Blk W gc 88 #[.int .i64 cu, .int .i64 cw]) ∧ (Blk W (w.heap.size + 1) 88 #[.int .i64 0, .int .i64 0] ∧ Blk W (w.heap.size + 1 + 1) 88 #[.int .i64 0, .int .i64 0]) ∧ Below w.heap.size w W ∧ w.heap.size + 3 ≤ W.heap.size) ⟨⟨Blk.alloc I1 _, by rw [← hgc]; exact Blk.new _ _ _⟩, ⟨R1.alloc _, R2.alloc _⟩, BEL1.alloc (by omega) _, by first | (simp; done) | (simp; omega)⟩ ?_
  rw [hgc]
  have HGC := Lib.hid (show gc ≠ w.heap.size + 1 by omega)
  clear I1 R1 R2 BEL1 hgc
  rintro W1 ⟨⟨I1, P1⟩, ⟨R1, R2⟩, BEL1, szW1⟩
  have HR1 := Lib.hid R1
  have HR2 := Lib.hid R2
  let T : World → Prop := fun W => Below W1.heap.size W1 W
  have hT0 : T W1.drew := (Below.refl _ _).drew
  have SB : ∀ W W', T W → Below W.heap.size W W' → T W' := fun W W' h b => h.trans (b.mono h.size)
  have HS : ∀ W, T W → ItAt W w.heap.size i ∧ Blk W gc 88 #[.int .i64 cu, .int .i64 cw] := fun W h => ⟨ItAt.below I1 h, P1.below h P1.lt⟩
  have SR1 := Lib.hid (fun W (h : T W) => HR1.out.below h HR1.out.lt)
  have SR2 := Lib.hid (fun W (h : T W) => HR2.out.below h HR2.out.lt)
  have SBEL := Lib.hid (fun W (h : T W) => BEL1.trans (h.mono BEL1.size))
  have SSZ := Lib.hid (fun W (h : T W) => Nat.le_trans szW1 h.size)
  have hne : gc ≠ w.heap.size + 1 := HGC.out
  have HS := Lib.hid HS
  clear I1 P1 R1 R2 BEL1 szW1 HR1 HR2
  clear_value T
  have hS0 := HS.out _ hT0
  refine region_L (fun W => ItAt W w.heap.size i ∧ Blk W gc 88 #[.int .i64 cu, .int .i64 cw]) [15] (by kernel_rfl) ?_
  refine take_P 0 (v := .pointer (some ⟨w.heap.size, 8, none⟩)) rfl (by kernel_rfl) (by kernel_rfl) (by kernel_rfl) (fun _ _ _ h => h) rfl (fun W' => by go_simp) ?_
  refine take_L 1 (v := .int .i64 i.plane) rfl (by kernel_rfl) (by kernel_rfl) (by kernel_rfl) (by kernel_rfl) (fun _ _ _ h => h) rfl (fun W' hW' => by have z := hW'.1.c8; go_simp) hS0 ?_
  refine take_P 2 (v := .pointer (some ⟨w.heap.size, 2, none⟩)) rfl (by kernel_rfl) (by kernel_rfl) (by kernel_rfl) (fun _ _ _ h => h) rfl (fun W' => by go_simp) ?_
  refine take_L 3 (v := .agg #[.int .i64 i.fx, .int .i64 i.fy, .int .i64 i.fz]) rfl (by kernel_rfl) (by kernel_rfl) (by kernel_rfl) (by kernel_rfl) (fun _ _ _ h => h) rfl (fun W' hW' => by have z := hW'.1.c2; have z2 := hW'.1.c3; have z3 := hW'.1.c4; go_simp) hS0 ?_
  refine take_L 5 (v := .agg #[.int .i64 cu, .int .i64 cw]) rfl (by kernel_rfl) (by kernel_rfl) (by kernel_rfl) (by kernel_rfl) (fun _ _ _ h => h) rfl (fun W' hW' => by have z := hW'.2.cell' 0 rfl; have z2 := hW'.2.cell' 1 rfl; go_simp) hS0 ?_
  refine take_P 7 (v := .pointer (some ⟨w.heap.size, 8, none⟩)) rfl (by kernel_rfl) (by kernel_rfl) (by kernel_rfl) (fun _ _ _ h => h) rfl (fun W' => by go_simp) ?_
  refine take_L 8 (v := .int .i64 i.plane) rfl (by kernel_rfl) (by kernel_rfl) (by kernel_rfl) (by kernel_rfl) (fun _ _ _ h => h) rfl (fun W' hW' => by have z := hW'.1.c8; go_simp) hS0 ?_
  refine take_P 9 (v := .pointer (some ⟨w.heap.size, 5, none⟩)) rfl (by kernel_rfl) (by kernel_rfl) (by kernel_rfl) (fun _ _ _ h => h) rfl (fun W' => by go_simp) ?_
  refine take_L 10 (v := .agg #[.int .i64 i.tx, .int .i64 i.ty, .int .i64 i.tz]) rfl (by kernel_rfl) (by kernel_rfl) (by kernel_rfl) (by kernel_rfl) (fun _ _ _ h => h) rfl (fun W' hW' => by have z := hW'.1.c5; have z2 := hW'.1.c6; have z3 := hW'.1.c7; go_simp) hS0 ?_
  refine take_L 12 (v := .agg #[.int .i64 cu, .int .i64 cw]) rfl (by kernel_rfl) (by kernel_rfl) (by kernel_rfl) (by kernel_rfl) (fun _ _ _ h => h) rfl (fun W' hW' => by have z := hW'.2.cell' 0 rfl; have z2 := hW'.2.cell' 1 rfl; go_simp) hS0 ?_
  refine one_L 4 (by kernel_rfl) rfl rfl fun K4 hK4 => ?_
  have HK4 := Lib.hid hK4
  clear hK4
  go_simp
  refine (KF.out _).mono ?_
  rintro e w4 ⟨rfl, b4⟩
  have h4 := SB _ _ hT0 b4
  clear b4 hT0
  refine HK4.out _ _ (fun _ _ => HS.out _ h4) ?_
  refine one_L 6 (by kernel_rfl) rfl rfl fun K6 hK6 => ?_
  have HK6 := Lib.hid hK6
  clear hK6
  go_simp
  refine (KS1.out _).mono ?_
  rintro e w6 ⟨rfl, b6⟩
  have h6 := SB _ _ h4 b6
  clear b6 h4
  refine HK6.out _ _ (fun _ _ => HS.out _ h6) ?_
  refine one_L 11 (by kernel_rfl) rfl rfl fun K11 hK11 => ?_
  have HK11 := Lib.hid hK11
  clear hK11
  go_simp
  refine (KT.out _).mono ?_
  rintro e w11 ⟨rfl, b11⟩
  have h11 := SB _ _ h6 b11
  clear b11 h6
  refine HK11.out _ _ (fun _ _ => HS.out _ h11) ?_
  refine one_L 13 (by kernel_rfl) rfl rfl fun K13 hK13 => ?_
  have HK13 := Lib.hid hK13
  clear hK13
  go_simp
  refine (KS2.out _).mono ?_
  rintro e w13 ⟨rfl, b13⟩
  have h13 := SB _ _ h11 b13
  clear b13 h11
  refine HK13.out _ _ (fun _ _ => HS.out _ h13) ?_
  have R1 := SR1.out _ h13
  have R2 := SR2.out _ h13
  have BEL := SBEL.out _ h13
  have SZ := SSZ.out _ h13
  have f10 := R1.frozen 0
  have f11 := R1.frozen 1
  have f20 := R2.frozen 0
  have f21 := R2.frozen 1
  have r10 := R1.cell' 0 rfl
  have r11 := R1.cell' 1 rfl
  have r20 := R2.cell' 0 rfl
  have r21 := R2.cell' 1 rfl
  refine one_L 14 (by kernel_rfl) rfl rfl fun K14 hK14 => ?_
  have HK14 := Lib.hid hK14
  clear hK14
  go_simp
  refine HK14.out _ _ (fun _ h => ⟨Blk.skip (Blk.skip h.1 (by simp) _) (by simp) _, Blk.skip (Blk.skip h.2 (by simpa using hne) _) (by simpa using hne) _⟩) ?_
  refine one_L 15 (by kernel_rfl) rfl rfl fun K15 hK15 => ?_
  have HK15 := Lib.hid hK15
  clear hK15
  go_simp
  refine HK15.out _ _ (fun h => absurd h (by decide)) ?_
  refine done_L (by kernel_rfl) ?_ _
  clear HK4 HK6 HK11 HK13 HK14 HK15
  go_simp
  go_wp2_with fail
  refine bodyPost_ret (results_cc rfl rfl (show Blk _ (w.heap.size + 1) 88 #[.int .i64 s1, .int .i64 s2] from Blk.skip (Blk.skip (Blk.put (Blk.put R1 0 _) 1 _) (by simp) _) (by simp) _) Tryz.underlying88 rfl (by kernel_rfl) rfl (show Blk _ (w.heap.size + 1 + 1) 88 #[.int .i64 s3, .int .i64 s4] from Blk.put (Blk.put (Blk.skip (Blk.skip R2 (by simp) _) (by simp) _) 0 _) 1 _) Tryz.underlying88 rfl (by kernel_rfl)) rfl ?_
  exact ⟨rfl, ((((BEL.setCell (by simp) _).setCell (by simp) _).setCell (by simp; omega) _).setCell (by simp; omega) _)⟩

def rfitV (x y : Nat) (au aw bu bw : Int) (full : Bool) : Bool := decide (64 ≤ (x : Int)) && (decide (64 ≤ (y : Int)) && (simB x y && (if full then decide (au = bu ∧ aw = bw) else !(aliB au aw bu bw))))
set_option maxRecDepth 100000 in
set_option maxHeartbeats 2000000 in
theorem rfit_any (au aw bu bw : Int) (full : Bool) (A1 : -4194304 ≤ au ∧ au ≤ 4194304) (A2 : -4194304 ≤ aw ∧ aw ≤ 4194304) (A3 : -4194304 ≤ bu ∧ bu ≤ 4194304) (A4 : -4194304 ≤ bw ∧ bw ≤ 4194304) (w : World) :
    Calls Tryz.prog 88 #[.agg #[.int .i64 au, .int .i64 aw], .agg #[.int .i64 bu, .int .i64 bw], .bool full] w fun e w' => e = .returned (.bool (fitB au aw bu bw full)) ∧ Below w.heap.size w w' := by
  obtain ⟨hx0, hx1⟩ := inn_self au aw A1 A2
  obtain ⟨hy0, hy1⟩ := inn_self bu bw A3 A4
  have KI1 := fun W => rinner_any au aw au aw (by omega) (by omega) (by omega) (by omega) W
  have KI2 := fun W => rinner_any bu bw bu bw (by omega) (by omega) (by omega) (by omega) W
  have KX := Lib.hid (fun W => rcross_any au aw bu bw (by omega) (by omega) (by omega) (by omega) W)
  have KN := Lib.hid (fun W => rinner_any au aw bu bw (by omega) (by omega) (by omega) (by omega) W)
  obtain ⟨xn, hxn⟩ := Int.eq_ofNat_of_zero_le hx0
  obtain ⟨yn, hyn⟩ := Int.eq_ofNat_of_zero_le hy0
  have hfv : fitB au aw bu bw full = rfitV xn yn au aw bu bw full := by unfold fitB rfitV; rw [hxn, hyn]; simp only [Int.toNat_natCast]
  rw [hxn] at KI1 hx1
  rw [hyn] at KI2 hy1
  obtain ⟨fv, hf⟩ : ∃ b, fitB au aw bu bw full = b := ⟨_, rfl⟩
  rw [hf] at hfv ⊢
  have HFV := Lib.hid hfv
  let S : World → Prop := fun W => Below w.heap.size w W ∧ Blk W w.heap.size 88 #[.int .i64 au, .int .i64 aw] ∧ Blk W (w.heap.size + 1) 88 #[.int .i64 bu, .int .i64 bw]
  have hs : S ((w.alloc (.cells #[.int .i64 au, .int .i64 aw] 88)).alloc (.cells #[.int .i64 bu, .int .i64 bw] 88)).drew := ⟨by (repeat (first | exact Below.refl _ _ | refine Below.drew ?_ | refine Below.alloc ?_ (by first | exact Nat.le_refl _ | (simp; done) | (simp; omega)) _ | refine Below.setCell ?_ (by first | exact Nat.le_refl _ | (simp; done) | (simp; omega)) _)), by (repeat (first | exact Blk.new _ _ _ | exact blk_new1 _ _ _ _ | exact blk_new2 _ _ _ _ _ | refine Blk.drew ?_ | refine Blk.alloc ?_ _)), by (repeat (first | exact Blk.new _ _ _ | exact blk_new1 _ _ _ _ | exact blk_new2 _ _ _ _ _ | refine Blk.drew ?_ | refine Blk.alloc ?_ _))⟩
  have inst : Nonempty (At S) := ⟨⟨_, hs⟩⟩
  have SB : ∀ W W', S W → Below W.heap.size W W' → S W' := fun W W' h b => ⟨h.1.trans (b.mono h.1.size), h.2.1.below b h.2.1.lt, h.2.2.below b h.2.2.lt⟩
  have HKA1 := Lib.hid (fun q : At S => (KI1 q.w).mono (fun e w' h => (⟨h.1, SB _ _ q.ok h.2⟩ : e = .returned (.int .i64 (xn : Int)) ∧ S w')))
  have HKA2 := Lib.hid (fun q : At S => (KI2 q.w).mono (fun e w' h => (⟨h.1, SB _ _ q.ok h.2⟩ : e = .returned (.int .i64 (yn : Int)) ∧ S w')))
  have p0 : ∀ q : At S, q.w.cell? ⟨w.heap.size, 0, none⟩ = some (.int .i64 au) := fun q => q.ok.2.1.cell' 0 rfl
  have p1 : ∀ q : At S, q.w.cell? ⟨w.heap.size, 1, none⟩ = some (.int .i64 aw) := fun q => q.ok.2.1.cell' 1 rfl
  have q0 : ∀ q : At S, q.w.cell? ⟨w.heap.size + 1, 0, none⟩ = some (.int .i64 bu) := fun q => q.ok.2.2.cell' 0 rfl
  have q1 : ∀ q : At S, q.w.cell? ⟨w.heap.size + 1, 1, none⟩ = some (.int .i64 bw) := fun q => q.ok.2.2.cell' 1 rfl
  have HFIN := Lib.hid (fun q : At S => q.ok)
  have HFIN : Hid (∀ q : At S, Below w.heap.size w q.w ∧ Blk q.w w.heap.size 88 #[.int .i64 au, .int .i64 aw] ∧ Blk q.w (w.heap.size + 1) 88 #[.int .i64 bu, .int .i64 bw]) := HFIN
  clear KI1 KI2 SB hfv hf hx0 hy0 hxn hyn A1 A2 A3 A4
  clear_value S
  go_enter Tryz.func88, Tryz.ntmps88
  go_wp2_with fail
  refine wp_region_at S (by kernel_rfl) (by kernel_rfl) hs ?_
  repeat go_big_quiet_step (first | with_reducible exact Calls.at_of (HKA1.out _) fun e w' h => ⟨h.1, h.2⟩ | with_reducible exact Calls.at_of (HKA2.out _) fun e w' h => ⟨h.1, h.2⟩)
  refine wpQuiet_nil ?_
  rintro _ ⟨p, rfl⟩
  obtain ⟨BEL7, P7, Q7⟩ := HFIN.out p
  clear p0 p1 q0 q1
  generalize p.w = W7 at P7 Q7 BEL7 ⊢
  clear HKA1 HKA2 HFIN inst p hs
  by_cases hxy : yn < xn
  · have c1 : decide (yn < xn) = true := decide_eq_true hxy
    have c1' : decide ((yn : Int) < (xn : Int)) = true := decide_eq_true (by omega)
    by_cases hx64 : yn < 64
    · have t1 : decide (yn < 64) = true := decide_eq_true hx64
      have t1' : decide ((yn : Int) < 64) = true := decide_eq_true (by omega)
      have EE : fv = false := by
        rw [HFV.out]
        have : ¬ (64 : Int) ≤ (yn : Int) := by omega
        simp [rfitV, this]
      subst EE
      go_wp2_with fail
      go_ret
      exact ⟨rfl, BEL7⟩
    have t1 : decide (yn < 64) = false := decide_eq_false hx64
    have t1' : decide ((yn : Int) < 64) = false := decide_eq_false (by omega)
    have HX64 := Lib.hid (show (64 : Int) ≤ (yn : Int) from by omega)
    have HY64 := Lib.hid (show (64 : Int) ≤ (xn : Int) from by omega)
    have e1 : simB yn xn = decide (xn ≤ yn + 16 ∨ (xn - yn - 16) * (xn - yn - 16) ≤ 64 * yn) := by unfold simB; rw [Nat.max_eq_right (by omega), Nat.min_eq_left (by omega)]
    have e1c : simB xn yn = simB yn xn := simB_comm _ _
    have hw2 : IntKind.i64.wrap ((xn : Int) - (yn : Int)) = (xn : Int) - (yn : Int) := by rw [IntKind.wrap_i64]; omega
    have hw3 : IntKind.i64.wrap ((xn : Int) - (yn : Int) - 16) = (xn : Int) - (yn : Int) - 16 := by rw [IntKind.wrap_i64]; omega
    have hc : (∃ d : Nat, (xn : Int) - (yn : Int) - 16 = (d : Int) ∧ 1 ≤ d ∧ xn - yn - 16 = d) ∨ (xn : Int) - (yn : Int) - 16 ≤ 0 := by
      by_cases h0 : (xn : Int) - (yn : Int) - 16 ≤ 0
      · exact .inr h0
      · exact .inl ⟨xn - yn - 16, by omega, by omega, rfl⟩
    rcases hc with ⟨d, hd, hd1, hd2⟩ | hd
    · have KC := Lib.hid (fun W => rCmp_any d d 64 yn ⟨hd1, by omega⟩ ⟨hd1, by omega⟩ ⟨by omega, by omega⟩ ⟨by omega, by omega⟩ W)
      have e2 : simB yn xn = decide (d * d ≤ 64 * yn) := by
        rw [e1, hd2]
        by_cases hh : d * d ≤ 64 * yn
        · rw [decide_eq_true hh]; exact decide_eq_true (.inr hh)
        · rw [decide_eq_false hh]; exact decide_eq_false (by omega)
      have e3 := cmpV_le (x := d * d) (y := 64 * yn)
      obtain ⟨z, hz⟩ : ∃ z, cmpV (d * d) (64 * yn) = z := ⟨_, rfl⟩
      rw [hz] at KC e3
      have q0 : decide ((0 : Int) < (d : Int)) = true := decide_eq_true (by omega)
      have q0' : decide (0 < d) = true := decide_eq_true (by omega)
      rw [hd] at hw3
      have HD := Lib.hid hd
      have hwd : IntKind.i64.wrap (d : Int) = d := by rw [IntKind.wrap_i64]; omega
      have E23 := Lib.hid (e2.trans e3.symm)
      clear e1 e2 e3 hz hd2 hd hw2
      have hd := HD.out
      have hw2 : IntKind.i64.wrap ((xn : Int) - (yn : Int)) = (xn : Int) - (yn : Int) := by rw [IntKind.wrap_i64]; omega
      go_wp2_with fail
      refine (KC.out _).mono ?_
      rintro e w8 ⟨rfl, b8⟩
      have P8 := P7.below b8 P7.lt
      have Q8 := Q7.below b8 Q7.lt
      have BEL8 : Below w.heap.size w w8 := BEL7.trans (b8.mono BEL7.size)
      clear b8 P7 Q7 BEL7
      by_cases hz : z ≤ 0
      · have z1 : decide (0 < z) = false := decide_eq_false (by omega)
        have HSB : Hid (simB yn xn = true) := Lib.hid (by rw [E23.out]; exact decide_eq_true hz)
        have p0 := P8.cell' 0 rfl
        have p1 := P8.cell' 1 rfl
        have q0 := Q8.cell' 0 rfl
        have q1 := Q8.cell' 1 rfl
        have E1C := Lib.hid e1c
        clear e1c
        cases full
        · obtain ⟨cv, hcv⟩ : ∃ z, crs au aw bu bw = z := ⟨_, rfl⟩
          obtain ⟨nv, hnv⟩ : ∃ z, inn au aw bu bw = z := ⟨_, rfl⟩
          rw [hcv] at KX
          rw [hnv] at KN
          have HFN : Hid (fv = !decide (cv = 0 ∧ 0 < nv)) := Lib.hid (by
            rw [HFV.out]
            simp [rfitV, HSB.out, E1C.out, HX64.out, HY64.out, aliB, hcv, hnv])
          clear hcv hnv
          go_wp2_with fail
          refine (KX.out _).mono ?_
          rintro e w9 ⟨rfl, b9⟩
          have P9 := P8.below b9 P8.lt
          have Q9 := Q8.below b9 Q8.lt
          have BEL9 : Below w.heap.size w w9 := BEL8.trans (b9.mono BEL8.size)
          clear b9 P8 Q8 BEL8 p0 p1 q0 q1
          have p0 := P9.cell' 0 rfl
          have p1 := P9.cell' 1 rfl
          have q0 := Q9.cell' 0 rfl
          have q1 := Q9.cell' 1 rfl
          by_cases hc0 : cv = 0
          · subst hc0
            go_wp2_with fail
            refine (KN.out _).mono ?_
            rintro e wA ⟨rfl, bA⟩
            have BELA : Below w.heap.size w wA := BEL9.trans (bA.mono BEL9.size)
            clear bA
            go_wp2_with fail
            go_ret
            exact ⟨ret_bool (by rw [HFN.out]; simp), BELA⟩
          · have t5 : (cv == 0) = false := by simpa using hc0
            have EE : fv = true := by rw [HFN.out]; simp [hc0]
            subst EE
            go_wp2_with fail
            go_ret
            exact ⟨rfl, BEL9⟩
        · have HFN : Hid (fv = decide (au = bu ∧ aw = bw)) := Lib.hid (by
            rw [HFV.out]
            simp [rfitV, HSB.out, E1C.out, HX64.out, HY64.out])
          by_cases x1 : au = bu
          · by_cases x2 : aw = bw
            · have EE : fv = true := by rw [HFN.out]; simp [x1, x2]
              subst x1 x2 EE
              clear HFN HFV KX KN
              go_wp2_with fail
              go_ret
              exact ⟨rfl, BEL8⟩
            · have EE : fv = false := by rw [HFN.out]; simp [x2]
              have t6 : (aw == bw) = false := by simpa using x2
              subst x1 EE
              clear HFN HFV KX KN
              go_wp2_with fail
              go_ret
              exact ⟨rfl, BEL8⟩
          · have EE : fv = false := by rw [HFN.out]; simp [x1]
            have t6 : (au == bu) = false := by simpa using x1
            subst EE
            clear HFN HFV KX KN
            go_wp2_with fail
            go_ret
            exact ⟨rfl, BEL8⟩
      · have z1 : decide (0 < z) = true := decide_eq_true (by omega)
        have HSB : Hid (simB yn xn = false) := Lib.hid (by rw [E23.out]; exact decide_eq_false hz)
        have EE : fv = false := by
          rw [HFV.out]
          simp [rfitV, HSB.out, e1c]
        subst EE
        go_wp2_with fail
        go_ret
        exact ⟨rfl, BEL8⟩
    · have HSB : Hid (simB yn xn = true) := Lib.hid (by rw [e1]; exact decide_eq_true (Or.inl (by omega)))
      have q0 : decide ((0 : Int) < (xn : Int) - (yn : Int) - 16) = false := decide_eq_false (by omega)
      have P8 := P7
      have Q8 := Q7
      have BEL8 := BEL7
      clear P7 Q7 BEL7 e1
      have p0 := P8.cell' 0 rfl
      have p1 := P8.cell' 1 rfl
      have q0 := Q8.cell' 0 rfl
      have q1 := Q8.cell' 1 rfl
      have E1C := Lib.hid e1c
      clear e1c
      cases full
      · obtain ⟨cv, hcv⟩ : ∃ z, crs au aw bu bw = z := ⟨_, rfl⟩
        obtain ⟨nv, hnv⟩ : ∃ z, inn au aw bu bw = z := ⟨_, rfl⟩
        rw [hcv] at KX
        rw [hnv] at KN
        have HFN : Hid (fv = !decide (cv = 0 ∧ 0 < nv)) := Lib.hid (by
          rw [HFV.out]
          simp [rfitV, HSB.out, E1C.out, HX64.out, HY64.out, aliB, hcv, hnv])
        clear hcv hnv
        go_wp2_with fail
        refine (KX.out _).mono ?_
        rintro e w9 ⟨rfl, b9⟩
        have P9 := P8.below b9 P8.lt
        have Q9 := Q8.below b9 Q8.lt
        have BEL9 : Below w.heap.size w w9 := BEL8.trans (b9.mono BEL8.size)
        clear b9 P8 Q8 BEL8 p0 p1 q0 q1
        have p0 := P9.cell' 0 rfl
        have p1 := P9.cell' 1 rfl
        have q0 := Q9.cell' 0 rfl
        have q1 := Q9.cell' 1 rfl
        by_cases hc0 : cv = 0
        · subst hc0
          go_wp2_with fail
          refine (KN.out _).mono ?_
          rintro e wA ⟨rfl, bA⟩
          have BELA : Below w.heap.size w wA := BEL9.trans (bA.mono BEL9.size)
          clear bA
          go_wp2_with fail
          go_ret
          exact ⟨ret_bool (by rw [HFN.out]; simp), BELA⟩
        · have t5 : (cv == 0) = false := by simpa using hc0
          have EE : fv = true := by rw [HFN.out]; simp [hc0]
          subst EE
          go_wp2_with fail
          go_ret
          exact ⟨rfl, BEL9⟩
      · have HFN : Hid (fv = decide (au = bu ∧ aw = bw)) := Lib.hid (by
          rw [HFV.out]
          simp [rfitV, HSB.out, E1C.out, HX64.out, HY64.out])
        by_cases x1 : au = bu
        · by_cases x2 : aw = bw
          · have EE : fv = true := by rw [HFN.out]; simp [x1, x2]
            subst x1 x2 EE
            clear HFN HFV KX KN
            go_wp2_with fail
            go_ret
            exact ⟨rfl, BEL8⟩
          · have EE : fv = false := by rw [HFN.out]; simp [x2]
            have t6 : (aw == bw) = false := by simpa using x2
            subst x1 EE
            clear HFN HFV KX KN
            go_wp2_with fail
            go_ret
            exact ⟨rfl, BEL8⟩
        · have EE : fv = false := by rw [HFN.out]; simp [x1]
          have t6 : (au == bu) = false := by simpa using x1
          subst EE
          clear HFN HFV KX KN
          go_wp2_with fail
          go_ret
          exact ⟨rfl, BEL8⟩
  · have c1 : decide (yn < xn) = false := decide_eq_false hxy
    have c1' : decide ((yn : Int) < (xn : Int)) = false := decide_eq_false (by omega)
    by_cases hx64 : xn < 64
    · have t1 : decide (xn < 64) = true := decide_eq_true hx64
      have t1' : decide ((xn : Int) < 64) = true := decide_eq_true (by omega)
      have EE : fv = false := by
        rw [HFV.out]
        have : ¬ (64 : Int) ≤ (xn : Int) := by omega
        simp [rfitV, this]
      subst EE
      go_wp2_with fail
      go_ret
      exact ⟨rfl, BEL7⟩
    have t1 : decide (xn < 64) = false := decide_eq_false hx64
    have t1' : decide ((xn : Int) < 64) = false := decide_eq_false (by omega)
    have HX64 := Lib.hid (show (64 : Int) ≤ (xn : Int) from by omega)
    have HY64 := Lib.hid (show (64 : Int) ≤ (yn : Int) from by omega)
    have e1 : simB xn yn = decide (yn ≤ xn + 16 ∨ (yn - xn - 16) * (yn - xn - 16) ≤ 64 * xn) := by unfold simB; rw [Nat.max_eq_right (by omega), Nat.min_eq_left (by omega)]
    have e1c : simB yn xn = simB xn yn := simB_comm _ _
    have hw2 : IntKind.i64.wrap ((yn : Int) - (xn : Int)) = (yn : Int) - (xn : Int) := by rw [IntKind.wrap_i64]; omega
    have hw3 : IntKind.i64.wrap ((yn : Int) - (xn : Int) - 16) = (yn : Int) - (xn : Int) - 16 := by rw [IntKind.wrap_i64]; omega
    have hc : (∃ d : Nat, (yn : Int) - (xn : Int) - 16 = (d : Int) ∧ 1 ≤ d ∧ yn - xn - 16 = d) ∨ (yn : Int) - (xn : Int) - 16 ≤ 0 := by
      by_cases h0 : (yn : Int) - (xn : Int) - 16 ≤ 0
      · exact .inr h0
      · exact .inl ⟨yn - xn - 16, by omega, by omega, rfl⟩
    rcases hc with ⟨d, hd, hd1, hd2⟩ | hd
    · have KC := Lib.hid (fun W => rCmp_any d d 64 xn ⟨hd1, by omega⟩ ⟨hd1, by omega⟩ ⟨by omega, by omega⟩ ⟨by omega, by omega⟩ W)
      have e2 : simB xn yn = decide (d * d ≤ 64 * xn) := by
        rw [e1, hd2]
        by_cases hh : d * d ≤ 64 * xn
        · rw [decide_eq_true hh]; exact decide_eq_true (.inr hh)
        · rw [decide_eq_false hh]; exact decide_eq_false (by omega)
      have e3 := cmpV_le (x := d * d) (y := 64 * xn)
      obtain ⟨z, hz⟩ : ∃ z, cmpV (d * d) (64 * xn) = z := ⟨_, rfl⟩
      rw [hz] at KC e3
      have q0 : decide ((0 : Int) < (d : Int)) = true := decide_eq_true (by omega)
      have q0' : decide (0 < d) = true := decide_eq_true (by omega)
      rw [hd] at hw3
      have HD := Lib.hid hd
      have hwd : IntKind.i64.wrap (d : Int) = d := by rw [IntKind.wrap_i64]; omega
      have E23 := Lib.hid (e2.trans e3.symm)
      clear e1 e2 e3 hz hd2 hd hw2
      have hd := HD.out
      have hw2 : IntKind.i64.wrap ((yn : Int) - (xn : Int)) = (yn : Int) - (xn : Int) := by rw [IntKind.wrap_i64]; omega
      go_wp2_with fail
      refine (KC.out _).mono ?_
      rintro e w8 ⟨rfl, b8⟩
      have P8 := P7.below b8 P7.lt
      have Q8 := Q7.below b8 Q7.lt
      have BEL8 : Below w.heap.size w w8 := BEL7.trans (b8.mono BEL7.size)
      clear b8 P7 Q7 BEL7
      by_cases hz : z ≤ 0
      · have z1 : decide (0 < z) = false := decide_eq_false (by omega)
        have HSB : Hid (simB xn yn = true) := Lib.hid (by rw [E23.out]; exact decide_eq_true hz)
        have p0 := P8.cell' 0 rfl
        have p1 := P8.cell' 1 rfl
        have q0 := Q8.cell' 0 rfl
        have q1 := Q8.cell' 1 rfl
        have E1C := Lib.hid e1c
        clear e1c
        cases full
        · obtain ⟨cv, hcv⟩ : ∃ z, crs au aw bu bw = z := ⟨_, rfl⟩
          obtain ⟨nv, hnv⟩ : ∃ z, inn au aw bu bw = z := ⟨_, rfl⟩
          rw [hcv] at KX
          rw [hnv] at KN
          have HFN : Hid (fv = !decide (cv = 0 ∧ 0 < nv)) := Lib.hid (by
            rw [HFV.out]
            simp [rfitV, HSB.out, E1C.out, HX64.out, HY64.out, aliB, hcv, hnv])
          clear hcv hnv
          go_wp2_with fail
          refine (KX.out _).mono ?_
          rintro e w9 ⟨rfl, b9⟩
          have P9 := P8.below b9 P8.lt
          have Q9 := Q8.below b9 Q8.lt
          have BEL9 : Below w.heap.size w w9 := BEL8.trans (b9.mono BEL8.size)
          clear b9 P8 Q8 BEL8 p0 p1 q0 q1
          have p0 := P9.cell' 0 rfl
          have p1 := P9.cell' 1 rfl
          have q0 := Q9.cell' 0 rfl
          have q1 := Q9.cell' 1 rfl
          by_cases hc0 : cv = 0
          · subst hc0
            go_wp2_with fail
            refine (KN.out _).mono ?_
            rintro e wA ⟨rfl, bA⟩
            have BELA : Below w.heap.size w wA := BEL9.trans (bA.mono BEL9.size)
            clear bA
            go_wp2_with fail
            go_ret
            exact ⟨ret_bool (by rw [HFN.out]; simp), BELA⟩
          · have t5 : (cv == 0) = false := by simpa using hc0
            have EE : fv = true := by rw [HFN.out]; simp [hc0]
            subst EE
            go_wp2_with fail
            go_ret
            exact ⟨rfl, BEL9⟩
        · have HFN : Hid (fv = decide (au = bu ∧ aw = bw)) := Lib.hid (by
            rw [HFV.out]
            simp [rfitV, HSB.out, E1C.out, HX64.out, HY64.out])
          by_cases x1 : au = bu
          · by_cases x2 : aw = bw
            · have EE : fv = true := by rw [HFN.out]; simp [x1, x2]
              subst x1 x2 EE
              clear HFN HFV KX KN
              go_wp2_with fail
              go_ret
              exact ⟨rfl, BEL8⟩
            · have EE : fv = false := by rw [HFN.out]; simp [x2]
              have t6 : (aw == bw) = false := by simpa using x2
              subst x1 EE
              clear HFN HFV KX KN
              go_wp2_with fail
              go_ret
              exact ⟨rfl, BEL8⟩
          · have EE : fv = false := by rw [HFN.out]; simp [x1]
            have t6 : (au == bu) = false := by simpa using x1
            subst EE
            clear HFN HFV KX KN
            go_wp2_with fail
            go_ret
            exact ⟨rfl, BEL8⟩
      · have z1 : decide (0 < z) = true := decide_eq_true (by omega)
        have HSB : Hid (simB xn yn = false) := Lib.hid (by rw [E23.out]; exact decide_eq_false hz)
        have EE : fv = false := by
          rw [HFV.out]
          simp [rfitV, HSB.out, e1c]
        subst EE
        go_wp2_with fail
        go_ret
        exact ⟨rfl, BEL8⟩
    · have HSB : Hid (simB xn yn = true) := Lib.hid (by rw [e1]; exact decide_eq_true (Or.inl (by omega)))
      have q0 : decide ((0 : Int) < (yn : Int) - (xn : Int) - 16) = false := decide_eq_false (by omega)
      have P8 := P7
      have Q8 := Q7
      have BEL8 := BEL7
      clear P7 Q7 BEL7 e1
      have p0 := P8.cell' 0 rfl
      have p1 := P8.cell' 1 rfl
      have q0 := Q8.cell' 0 rfl
      have q1 := Q8.cell' 1 rfl
      have E1C := Lib.hid e1c
      clear e1c
      cases full
      · obtain ⟨cv, hcv⟩ : ∃ z, crs au aw bu bw = z := ⟨_, rfl⟩
        obtain ⟨nv, hnv⟩ : ∃ z, inn au aw bu bw = z := ⟨_, rfl⟩
        rw [hcv] at KX
        rw [hnv] at KN
        have HFN : Hid (fv = !decide (cv = 0 ∧ 0 < nv)) := Lib.hid (by
          rw [HFV.out]
          simp [rfitV, HSB.out, E1C.out, HX64.out, HY64.out, aliB, hcv, hnv])
        clear hcv hnv
        go_wp2_with fail
        refine (KX.out _).mono ?_
        rintro e w9 ⟨rfl, b9⟩
        have P9 := P8.below b9 P8.lt
        have Q9 := Q8.below b9 Q8.lt
        have BEL9 : Below w.heap.size w w9 := BEL8.trans (b9.mono BEL8.size)
        clear b9 P8 Q8 BEL8 p0 p1 q0 q1
        have p0 := P9.cell' 0 rfl
        have p1 := P9.cell' 1 rfl
        have q0 := Q9.cell' 0 rfl
        have q1 := Q9.cell' 1 rfl
        by_cases hc0 : cv = 0
        · subst hc0
          go_wp2_with fail
          refine (KN.out _).mono ?_
          rintro e wA ⟨rfl, bA⟩
          have BELA : Below w.heap.size w wA := BEL9.trans (bA.mono BEL9.size)
          clear bA
          go_wp2_with fail
          go_ret
          exact ⟨ret_bool (by rw [HFN.out]; simp), BELA⟩
        · have t5 : (cv == 0) = false := by simpa using hc0
          have EE : fv = true := by rw [HFN.out]; simp [hc0]
          subst EE
          go_wp2_with fail
          go_ret
          exact ⟨rfl, BEL9⟩
      · have HFN : Hid (fv = decide (au = bu ∧ aw = bw)) := Lib.hid (by
          rw [HFV.out]
          simp [rfitV, HSB.out, E1C.out, HX64.out, HY64.out])
        by_cases x1 : au = bu
        · by_cases x2 : aw = bw
          · have EE : fv = true := by rw [HFN.out]; simp [x1, x2]
            subst x1 x2 EE
            clear HFN HFV KX KN
            go_wp2_with fail
            go_ret
            exact ⟨rfl, BEL8⟩
          · have EE : fv = false := by rw [HFN.out]; simp [x2]
            have t6 : (aw == bw) = false := by simpa using x2
            subst x1 EE
            clear HFN HFV KX KN
            go_wp2_with fail
            go_ret
            exact ⟨rfl, BEL8⟩
        · have EE : fv = false := by rw [HFN.out]; simp [x1]
          have t6 : (au == bu) = false := by simpa using x1
          subst EE
          clear HFN HFV KX KN
          go_wp2_with fail
          go_ret
          exact ⟨rfl, BEL8⟩
end Go.Proofs.YtefdjdipbnnoaaaGreatDoor

namespace Go.Proofs.YtefdjdipbnnoaaaGreatDoor
open Go Go.RowKit
set_option linter.unusedVariables false
set_option linter.unusedSimpArgs false

attribute [local go_sem] itA_0 itA_1 itA_2 itA_3 itA_4 itA_5 itA_6 itA_7 itA_8 itA_9 itA_10 itA_11 itA_12 itA_13 itA_14 itA_15 itA_16 itA_17 itA_18 itA_19 itA_20 itA_21
set_option maxRecDepth 100000 in
set_option maxHeartbeats 2000000 in
theorem rcheck_any (i : It) (w : World) : Calls Tryz.prog 54 #[.agg (itA i)] w fun e w' => e = .returned (.int .i64 (arcE i)) ∧ Below w.heap.size w w' := by
  have KP := fun W => rplane_any i.plane W
  have K1 := fun W => rwithin_any i.fx i.fy i.fz W
  have K2 := fun W => rwithin_any i.tx i.ty i.tz W
  have K3 := fun W => rwithin_any i.cx i.cy i.cz W
  have K4 := fun W => rheight_any i.plane i.fx i.fy i.fz W
  have K5 := fun W => rheight_any i.plane i.cx i.cy i.cz W
  obtain ⟨ee, he⟩ : ∃ z, arcE i = z := ⟨_, rfl⟩
  have HE := Lib.hid he
  rw [he]
  clear he
  obtain ⟨fh, hfh⟩ : ∃ b, flH i.plane i.fx i.fy i.fz = b := ⟨_, rfl⟩
  obtain ⟨ch, hch⟩ : ∃ b, flH i.plane i.cx i.cy i.cz = b := ⟨_, rfl⟩
  obtain ⟨ok, hok⟩ : ∃ b, flOk i.plane = b := ⟨_, rfl⟩
  obtain ⟨g1, hg1⟩ : ∃ b, withB i.fx i.fy i.fz = b := ⟨_, rfl⟩
  obtain ⟨g2, hg2⟩ : ∃ b, withB i.tx i.ty i.tz = b := ⟨_, rfl⟩
  obtain ⟨g3, hg3⟩ : ∃ b, withB i.cx i.cy i.cz = b := ⟨_, rfl⟩
  rw [hok] at KP
  rw [hg1] at K1
  rw [hg2] at K2
  rw [hg3] at K3
  rw [hfh] at K4
  rw [hch] at K5
  have HOK := Lib.hid hok
  have HFH := Lib.hid hfh
  have HCH := Lib.hid hch
  have G1 := Lib.hid hg1
  have G2 := Lib.hid hg2
  have G3 := Lib.hid hg3
  clear hfh hch hok hg1 hg2 hg3
  let S : World → Prop := fun W => ItAt W w.heap.size i ∧ Below w.heap.size w W
  have hs : S (w.alloc (.cells (itA i) 25)).drew := ⟨Blk.drew (Blk.new _ _ _), by (repeat (first | exact Below.refl _ _ | refine Below.drew ?_ | refine Below.alloc ?_ (by first | exact Nat.le_refl _ | (simp; done) | (simp; omega)) _ | refine Below.setCell ?_ (by first | exact Nat.le_refl _ | (simp; done) | (simp; omega)) _))⟩
  have inst : Nonempty (At S) := ⟨⟨_, hs⟩⟩
  have SB : ∀ W W', S W → Below W.heap.size W W' → S W' := fun W W' h b => ⟨h.1.below b, h.2.trans (b.mono h.2.size)⟩
  have HPL := Lib.hid (fun q : At S => (KP q.w).mono (fun e w' h => (⟨h.1, h.2 ▸ q.ok⟩ : e = .returned (.bool ok) ∧ S w')))
  have H1 := Lib.hid (fun q : At S => (K1 q.w).mono (fun e w' h => (⟨h.1, SB _ _ q.ok h.2⟩ : e = .returned (.bool g1) ∧ S w')))
  have H2 := Lib.hid (fun q : At S => (K2 q.w).mono (fun e w' h => (⟨h.1, SB _ _ q.ok h.2⟩ : e = .returned (.bool g2) ∧ S w')))
  have H3 := Lib.hid (fun q : At S => (K3 q.w).mono (fun e w' h => (⟨h.1, SB _ _ q.ok h.2⟩ : e = .returned (.bool g3) ∧ S w')))
  have H4 := Lib.hid (fun q : At S => (K4 q.w).mono (fun e w' h => (⟨h.1, SB _ _ q.ok h.2⟩ : e = .returned (.int .i64 fh) ∧ S w')))
  have H5 := Lib.hid (fun q : At S => (K5 q.w).mono (fun e w' h => (⟨h.1, SB _ _ q.ok h.2⟩ : e = .returned (.int .i64 ch) ∧ S w')))
  have c0 : ∀ q : At S, q.w.cell? ⟨w.heap.size, 0, none⟩ = some (.int .i64 i.kind) := fun q => q.ok.1.c0
  have c2 : ∀ q : At S, q.w.cell? ⟨w.heap.size, 2, none⟩ = some (.int .i64 i.fx) := fun q => q.ok.1.c2
  have c3 : ∀ q : At S, q.w.cell? ⟨w.heap.size, 3, none⟩ = some (.int .i64 i.fy) := fun q => q.ok.1.c3
  have c4 : ∀ q : At S, q.w.cell? ⟨w.heap.size, 4, none⟩ = some (.int .i64 i.fz) := fun q => q.ok.1.c4
  have c5 : ∀ q : At S, q.w.cell? ⟨w.heap.size, 5, none⟩ = some (.int .i64 i.tx) := fun q => q.ok.1.c5
  have c6 : ∀ q : At S, q.w.cell? ⟨w.heap.size, 6, none⟩ = some (.int .i64 i.ty) := fun q => q.ok.1.c6
  have c7 : ∀ q : At S, q.w.cell? ⟨w.heap.size, 7, none⟩ = some (.int .i64 i.tz) := fun q => q.ok.1.c7
  have c8 : ∀ q : At S, q.w.cell? ⟨w.heap.size, 8, none⟩ = some (.int .i64 i.plane) := fun q => q.ok.1.c8
  have c9 : ∀ q : At S, q.w.cell? ⟨w.heap.size, 9, none⟩ = some (.int .i64 i.cx) := fun q => q.ok.1.c9
  have c10 : ∀ q : At S, q.w.cell? ⟨w.heap.size, 10, none⟩ = some (.int .i64 i.cy) := fun q => q.ok.1.c10
  have c11 : ∀ q : At S, q.w.cell? ⟨w.heap.size, 11, none⟩ = some (.int .i64 i.cz) := fun q => q.ok.1.c11
  have c12 : ∀ q : At S, q.w.cell? ⟨w.heap.size, 12, none⟩ = some (.int .i64 i.dir) := fun q => q.ok.1.c12
  have HFIN : Hid (∀ q : At S, ItAt q.w w.heap.size i ∧ Below w.heap.size w q.w) := Lib.hid (fun q : At S => q.ok)
  clear KP K1 K2 K3 K4 K5 SB
  clear_value S
  go_enter Tryz.func54, Tryz.ntmps54
  by_cases hk : i.kind = 3
  rotate_left
  · have k0 : (i.kind == 3) = false := by simpa using hk
    have k0' : (i.kind != 3) = true := by simpa using hk
    have E : arcE i = 1 := by unfold arcE; rw [if_neg]; simp [arcArg, hk]
    rw [HE.out] at E
    subst E
    go_wp2_with fail
    refine wp_region_at S (by kernel_rfl) (by kernel_rfl) hs ?_
    try simp only [List.append_eq, List.cons_append, List.nil_append]
    repeat go_big_quiet_step (first | with_reducible exact Calls.at_of (HPL.out _) fun e w' h => ⟨h.1, h.2⟩ | with_reducible exact Calls.at_of (H1.out _) fun e w' h => ⟨h.1, h.2⟩ | with_reducible exact Calls.at_of (H2.out _) fun e w' h => ⟨h.1, h.2⟩ | with_reducible exact Calls.at_of (H3.out _) fun e w' h => ⟨h.1, h.2⟩ | with_reducible exact Calls.at_of (H4.out _) fun e w' h => ⟨h.1, h.2⟩ | with_reducible exact Calls.at_of (H5.out _) fun e w' h => ⟨h.1, h.2⟩)
    refine wpQuiet_nil ?_
    rintro _ ⟨p, rfl⟩
    obtain ⟨I7, BEL7⟩ := HFIN.out p
    go_wp2_with fail
    go_ret
    exact ⟨rfl, BEL7⟩
  rw [hk] at c0
  have HK := Lib.hid hk
  clear hk
  cases ok
  · have E : arcE i = 1 := by unfold arcE; rw [if_neg]; simp [arcArg, HOK.out]
    rw [HE.out] at E
    subst E
    go_wp2_with fail
    refine wp_region_at S (by kernel_rfl) (by kernel_rfl) hs ?_
    try simp only [List.append_eq, List.cons_append, List.nil_append]
    repeat go_big_quiet_step (first | with_reducible exact Calls.at_of (HPL.out _) fun e w' h => ⟨h.1, h.2⟩ | with_reducible exact Calls.at_of (H1.out _) fun e w' h => ⟨h.1, h.2⟩ | with_reducible exact Calls.at_of (H2.out _) fun e w' h => ⟨h.1, h.2⟩ | with_reducible exact Calls.at_of (H3.out _) fun e w' h => ⟨h.1, h.2⟩ | with_reducible exact Calls.at_of (H4.out _) fun e w' h => ⟨h.1, h.2⟩ | with_reducible exact Calls.at_of (H5.out _) fun e w' h => ⟨h.1, h.2⟩)
    refine wpQuiet_nil ?_
    rintro _ ⟨p, rfl⟩
    obtain ⟨I7, BEL7⟩ := HFIN.out p
    go_wp2_with fail
    go_ret
    exact ⟨rfl, BEL7⟩
  cases g1
  · have E : arcE i = 1 := by unfold arcE; rw [if_neg]; simp [arcArg, G1.out]
    rw [HE.out] at E
    subst E
    go_wp2_with fail
    refine wp_region_at S (by kernel_rfl) (by kernel_rfl) hs ?_
    try simp only [List.append_eq, List.cons_append, List.nil_append]
    repeat go_big_quiet_step (first | with_reducible exact Calls.at_of (HPL.out _) fun e w' h => ⟨h.1, h.2⟩ | with_reducible exact Calls.at_of (H1.out _) fun e w' h => ⟨h.1, h.2⟩ | with_reducible exact Calls.at_of (H2.out _) fun e w' h => ⟨h.1, h.2⟩ | with_reducible exact Calls.at_of (H3.out _) fun e w' h => ⟨h.1, h.2⟩ | with_reducible exact Calls.at_of (H4.out _) fun e w' h => ⟨h.1, h.2⟩ | with_reducible exact Calls.at_of (H5.out _) fun e w' h => ⟨h.1, h.2⟩)
    refine wpQuiet_nil ?_
    rintro _ ⟨p, rfl⟩
    obtain ⟨I7, BEL7⟩ := HFIN.out p
    go_wp2_with fail
    go_ret
    exact ⟨rfl, BEL7⟩
  cases g2
  · have E : arcE i = 1 := by unfold arcE; rw [if_neg]; simp [arcArg, G2.out]
    rw [HE.out] at E
    subst E
    go_wp2_with fail
    refine wp_region_at S (by kernel_rfl) (by kernel_rfl) hs ?_
    try simp only [List.append_eq, List.cons_append, List.nil_append]
    repeat go_big_quiet_step (first | with_reducible exact Calls.at_of (HPL.out _) fun e w' h => ⟨h.1, h.2⟩ | with_reducible exact Calls.at_of (H1.out _) fun e w' h => ⟨h.1, h.2⟩ | with_reducible exact Calls.at_of (H2.out _) fun e w' h => ⟨h.1, h.2⟩ | with_reducible exact Calls.at_of (H3.out _) fun e w' h => ⟨h.1, h.2⟩ | with_reducible exact Calls.at_of (H4.out _) fun e w' h => ⟨h.1, h.2⟩ | with_reducible exact Calls.at_of (H5.out _) fun e w' h => ⟨h.1, h.2⟩)
    refine wpQuiet_nil ?_
    rintro _ ⟨p, rfl⟩
    obtain ⟨I7, BEL7⟩ := HFIN.out p
    go_wp2_with fail
    go_ret
    exact ⟨rfl, BEL7⟩
  cases g3
  · have E : arcE i = 1 := by unfold arcE; rw [if_neg]; simp [arcArg, G3.out]
    rw [HE.out] at E
    subst E
    go_wp2_with fail
    refine wp_region_at S (by kernel_rfl) (by kernel_rfl) hs ?_
    try simp only [List.append_eq, List.cons_append, List.nil_append]
    repeat go_big_quiet_step (first | with_reducible exact Calls.at_of (HPL.out _) fun e w' h => ⟨h.1, h.2⟩ | with_reducible exact Calls.at_of (H1.out _) fun e w' h => ⟨h.1, h.2⟩ | with_reducible exact Calls.at_of (H2.out _) fun e w' h => ⟨h.1, h.2⟩ | with_reducible exact Calls.at_of (H3.out _) fun e w' h => ⟨h.1, h.2⟩ | with_reducible exact Calls.at_of (H4.out _) fun e w' h => ⟨h.1, h.2⟩ | with_reducible exact Calls.at_of (H5.out _) fun e w' h => ⟨h.1, h.2⟩)
    refine wpQuiet_nil ?_
    rintro _ ⟨p, rfl⟩
    obtain ⟨I7, BEL7⟩ := HFIN.out p
    go_wp2_with fail
    go_ret
    exact ⟨rfl, BEL7⟩
  have hd : i.dir = 1 ∨ i.dir = -1 ∨ (i.dir ≠ 1 ∧ i.dir ≠ -1) := by omega
  rcases hd with hd | hd | ⟨hd1, hd2⟩
  rotate_left 2
  · have k1 : (i.dir == 1) = false := by simpa using hd1
    have k2 : (i.dir == -1) = false := by simpa using hd2
    have k1' : (i.dir != 1) = true := by simpa using hd1
    have k2' : (i.dir != -1) = true := by simpa using hd2
    have E : arcE i = 1 := by unfold arcE; rw [if_neg]; simp [arcArg, hd1, hd2]
    rw [HE.out] at E
    subst E
    go_wp2_with fail
    refine wp_region_at S (by kernel_rfl) (by kernel_rfl) hs ?_
    try simp only [List.append_eq, List.cons_append, List.nil_append]
    repeat go_big_quiet_step (first | with_reducible exact Calls.at_of (HPL.out _) fun e w' h => ⟨h.1, h.2⟩ | with_reducible exact Calls.at_of (H1.out _) fun e w' h => ⟨h.1, h.2⟩ | with_reducible exact Calls.at_of (H2.out _) fun e w' h => ⟨h.1, h.2⟩ | with_reducible exact Calls.at_of (H3.out _) fun e w' h => ⟨h.1, h.2⟩ | with_reducible exact Calls.at_of (H4.out _) fun e w' h => ⟨h.1, h.2⟩ | with_reducible exact Calls.at_of (H5.out _) fun e w' h => ⟨h.1, h.2⟩)
    refine wpQuiet_nil ?_
    rintro _ ⟨p, rfl⟩
    obtain ⟨I7, BEL7⟩ := HFIN.out p
    go_wp2_with fail
    go_ret
    exact ⟨rfl, BEL7⟩
  all_goals
    have HD := Lib.hid (show i.dir = 1 ∨ i.dir = -1 by omega)
    rw [hd] at c12
    clear hd
    by_cases hfc : fh = ch
    rotate_left
    · have k1 : (fh == ch) = false := by simpa using hfc
      have E : arcE i = 1 := by
        have : ¬ i.fH = i.cH := fun h => hfc (HFH.out.symm.trans (h.trans HCH.out))
        unfold arcE; rw [if_neg]; simp [arcArg, this]
      rw [HE.out] at E
      subst E
      go_wp2_with fail
      refine wp_region_at S (by kernel_rfl) (by kernel_rfl) hs ?_
      try simp only [List.append_eq, List.cons_append, List.nil_append]
      repeat go_big_quiet_step (first | with_reducible exact Calls.at_of (HPL.out _) fun e w' h => ⟨h.1, h.2⟩ | with_reducible exact Calls.at_of (H1.out _) fun e w' h => ⟨h.1, h.2⟩ | with_reducible exact Calls.at_of (H2.out _) fun e w' h => ⟨h.1, h.2⟩ | with_reducible exact Calls.at_of (H3.out _) fun e w' h => ⟨h.1, h.2⟩ | with_reducible exact Calls.at_of (H4.out _) fun e w' h => ⟨h.1, h.2⟩ | with_reducible exact Calls.at_of (H5.out _) fun e w' h => ⟨h.1, h.2⟩)
      refine wpQuiet_nil ?_
      rintro _ ⟨p, rfl⟩
      obtain ⟨I7, BEL7⟩ := HFIN.out p
      go_wp2_with fail
      go_ret
      exact ⟨rfl, BEL7⟩
    have hEE : ee = if fitB (i.fU - i.cU) (i.fW - i.cW) (i.tU - i.cU) (i.tW - i.cW) i.full then 0 else 12 := by
      rw [← HE.out]
      unfold arcE
      rw [if_pos]
      unfold arcArg
      have h3 : i.fH = i.cH := HFH.out.trans (hfc.trans HCH.out.symm)
      simp [HK.out, HOK.out, G1.out, G2.out, G3.out, HD.out, h3]
    have hF := fl_bd (p := i.plane) G1.out
    have hT := fl_bd (p := i.plane) G2.out
    have hC := fl_bd (p := i.plane) G3.out
    have KS := fun W => rspokes_any i W
    obtain ⟨au, hau⟩ : ∃ z, i.fU - i.cU = z := ⟨_, rfl⟩
    obtain ⟨aw, haw⟩ : ∃ z, i.fW - i.cW = z := ⟨_, rfl⟩
    obtain ⟨bu, hbu⟩ : ∃ z, i.tU - i.cU = z := ⟨_, rfl⟩
    obtain ⟨bw, hbw⟩ : ∃ z, i.tW - i.cW = z := ⟨_, rfl⟩
    have A1 : -4194304 ≤ au ∧ au ≤ 4194304 := by unfold It.fU It.cU at hau; omega
    have A2 : -4194304 ≤ aw ∧ aw ≤ 4194304 := by unfold It.fW It.cW at haw; omega
    have A3 : -4194304 ≤ bu ∧ bu ≤ 4194304 := by unfold It.tU It.cU at hbu; omega
    have A4 : -4194304 ≤ bw ∧ bw ≤ 4194304 := by unfold It.tW It.cW at hbw; omega
    rw [hau, haw, hbu, hbw] at hEE
    have s1 : wS i.fU i.cU = au := by rw [wS_eq (by omega)]; exact hau
    have s2 : wS i.fW i.cW = aw := by rw [wS_eq (by omega)]; exact haw
    have s3 : wS i.tU i.cU = bu := by rw [wS_eq (by omega)]; exact hbu
    have s4 : wS i.tW i.cW = bw := by rw [wS_eq (by omega)]; exact hbw
    rw [s1, s2, s3, s4] at KS
    have KS := Lib.hid KS
    have KFT := Lib.hid (fun W => rfit_any au aw bu bw i.full A1 A2 A3 A4 W)
    obtain ⟨fb, hfb⟩ : ∃ b, fitB au aw bu bw i.full = b := ⟨_, rfl⟩
    rw [hfb] at hEE KFT
    have HEE := Lib.hid hEE
    clear hF hT hC hau haw hbu hbw s1 s2 s3 s4 hEE hfb A1 A2 A3 A4
    subst hfc
    go_wp2_with fail
    refine wp_region_at S (by kernel_rfl) (by kernel_rfl) hs ?_
    try simp only [List.append_eq, List.cons_append, List.nil_append]
    repeat go_big_quiet_step (first | with_reducible exact Calls.at_of (HPL.out _) fun e w' h => ⟨h.1, h.2⟩ | with_reducible exact Calls.at_of (H1.out _) fun e w' h => ⟨h.1, h.2⟩ | with_reducible exact Calls.at_of (H2.out _) fun e w' h => ⟨h.1, h.2⟩ | with_reducible exact Calls.at_of (H3.out _) fun e w' h => ⟨h.1, h.2⟩ | with_reducible exact Calls.at_of (H4.out _) fun e w' h => ⟨h.1, h.2⟩ | with_reducible exact Calls.at_of (H5.out _) fun e w' h => ⟨h.1, h.2⟩)
    refine wpQuiet_nil ?_
    rintro _ ⟨p, rfl⟩
    obtain ⟨I7, BEL7⟩ := HFIN.out p
    clear c0 c2 c3 c4 c5 c6 c7 c8 c9 c10 c11 c12
    generalize p.w = W7 at I7 BEL7 ⊢
    clear HFIN p inst hs HPL H1 H2 H3 H4 H5
    have I7' : W7.heap[w.heap.size]? = some (.cells (itA i) 25 (0, 0)) := I7
    go_wp2_with (first
      | ((with_reducible refine go_load_row 25 (.tmp 1) w.heap.size 25 (itA i) _ rfl I7' Tryz.underlying25 rfl (by kernel_rfl) ?_)))
    refine (KS.out _).mono ?_
    rintro e w8 ⟨rfl, b8⟩
    have I8 : ItAt w8 w.heap.size i := ItAt.below I7 b8
    have BEL8 : Below w.heap.size w w8 := BEL7.trans (b8.mono BEL7.size)
    have l8 : w.heap.size < w8.heap.size := I8.lt
    clear I7 BEL7 b8 I7'
    have c13 := I8.c13
    go_wp2_with fail
    refine (KFT.out _).mono ?_
    rintro e w9 ⟨rfl, b9⟩
    have sz8 := BEL8.size
    have BEL9 : Below w.heap.size w w9 := ((BEL8.alloc (by omega) _).alloc (by simp; omega) _).trans (b9.mono (by simp; omega))
    clear b9 I8 BEL8 c13
    cases fb
    · have EE : ee = 12 := by rw [HEE.out]; rfl
      subst EE
      go_wp2_with fail
      go_ret
      exact ⟨rfl, BEL9⟩
    · have EE : ee = 0 := by rw [HEE.out]; rfl
      subst EE
      go_wp2_with fail
      go_ret
      exact ⟨rfl, BEL9⟩
end Go.Proofs.YtefdjdipbnnoaaaGreatDoor
