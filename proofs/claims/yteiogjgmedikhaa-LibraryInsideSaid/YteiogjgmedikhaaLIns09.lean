/-
  LibraryInside.
-/
import Derived.Test.YteiogjgmedikhaaLawP09
namespace Go.Proofs.Yteiogjgmedikhaa
open Go Go.RowKit
set_option linter.unusedVariables false

set_option maxRecDepth 100000 in
set_option maxHeartbeats 4000000 in
theorem inside_walk (a0 : Option Addr) (len0 cap0 : Nat) (z0 : List Int) (a1 : Int) (w : World) (w0 : IsRow .i64 w a0 len0 cap0 z0) (w1 : (Lit.int .i64 a1).wf = true) :
    Calls Try.prog 8 #[.slice a0 len0 cap0, .int .i64 a1] w fun e w' => e = .returned (.bool true) ∧ Below w.heap.size w w' := by
  obtain ⟨T, hT⟩ : ∃ T : Tp, T = ⟨len0, fun i => z0.getD i 0⟩ := ⟨_, rfl⟩
  have HT := Lib.hid hT
  clear hT
  obtain ⟨s, hfl⟩ := flow_lib T
  have hnm : s.mate.length = (flowF T).length := (mates_inv _ s (Nat.le_refl _) (buildB_ok hfl).2.2.1).len
  have hn33 := flow_len T
  generalize hL : flowF T = L at *
  have HL := Lib.hid hL
  have HFL := Lib.hid hfl
  have HNM := Lib.hid hnm
  clear hfl hnm hL
  clear w1
  have KL := Lib.hid (light_any w a0 len0 cap0)
  have KA := Lib.hid awake_true
  have W0 := Lib.hid w0
  clear w0
  go_enter Try.func8, Try.ntmps8
  go_wp2_with fail
  refine KL.out.mono ?_
  rintro e w' ⟨rfl, rfl⟩
  by_cases hlen : 120 < len0
  · have dl : decide (len0 ≤ 120) = false := decide_eq_false (by omega)
    go_wp2_with fail
    refine (KA.out _).mono ?_
    rintro e w' ⟨rfl, b9⟩
    go_wp2_with fail
    go_ret
    exact ⟨rfl, b9⟩
  have dl : decide (len0 ≤ 120) = true := decide_eq_true (by omega)
  have BW := Lib.hid (Below.refl w.heap.size w)
  have HLEN := Lib.hid hlen
  clear hlen KL
  go_wp2_with fail
  refine (tape_new _ a0 len0 cap0 z0 (W0.out.below BW.out) (by have := HLEN.out; omega)).mono ?_
  rintro e v1 ⟨rfl, hs, b1⟩
  have bw := BW.out.size
  have hb1 := belowMore BW.out b1
  rw [← HT.out] at hs
  have HS := Lib.hid hs
  have HB1 := Lib.hid hb1
  have HC1 := Lib.hid b1
  clear hs hb1 b1
  go_wp2_with fail
  refine (flow_any v1 _ _ _ _ _ HS.out).mono ?_
  rintro e v2 ⟨fa, fc, fp, rfl, hbs, kx, ht⟩
  rw [HL.out] at hbs ⊢
  have FB := Lib.hid hbs
  have B2 := Lib.hid (ht.below HB1.out bw)
  have LX := Lib.hid (ht.below HC1.out (Nat.le_refl _))
  clear hbs ht HS HB1 HC1 bw
  go_wp2_with fail
  refine (build_any _ fa fc fp v2 FB.out.at).mono ?_
  intro e v3 hp
  unfold LibPost at hp
  rw [HFL.out] at hp
  obtain ⟨ab1, cb1, pl1, ap1, cp1, am1, cm1, rfl, hlib, b3⟩ := hp
  have hln := LibN.of HFL.out hlib
  rw [HNM.out]
  have LN1 := Lib.hid hln
  have LB1 := Lib.hid b3
  clear hlib b3 hln
  unfold libV
  go_wp2_with fail
  refine calls_told (fun W => Below w.heap.size w W ∧ Blk W v3.heap.size 42 #[.slice ab1 L.length cb1, .slice ap1 s.progs.length cp1, .slice am1 L.length cm1] ∧ LibN W L s.progs s.mate L.length s.progs.length ab1 cb1 pl1 ap1 cp1 am1 cm1) ⟨(belowMore B2.out LB1.out).alloc (belowMore B2.out LB1.out).size _, Blk.new v3 _ _, LN1.out.under ((Below.refl v3.heap.size v3).alloc (Nat.le_refl _) _)⟩ ?_
  rintro W4 ⟨b4, r4, l4⟩
  have B4 := Lib.hid b4
  have R4 := Lib.hid r4
  have L4 := Lib.hid l4
  clear b4 r4 l4 LB1 LN1 B2 FB
  go_wp2_with fail
  refine (tape_new _ a0 len0 cap0 z0 (W0.out.below B4.out) (by have := HLEN.out; omega)).mono ?_
  rintro e v1 ⟨rfl, hs, b1⟩
  have bw := B4.out.size
  have hb1 := belowMore B4.out b1
  rw [← HT.out] at hs
  have HS := Lib.hid hs
  have HB1 := Lib.hid hb1
  have HC1 := Lib.hid b1
  clear hs hb1 b1
  go_wp2_with fail
  refine (flow_any v1 _ _ _ _ _ HS.out).mono ?_
  rintro e v6 ⟨ga, gc, gp, rfl, hbs, kx, ht⟩
  rw [HL.out] at hbs ⊢
  have GB := Lib.hid hbs
  have B6 := Lib.hid (ht.below HB1.out bw)
  have LX := Lib.hid (ht.below HC1.out (Nat.le_refl _))
  clear hbs ht HS HB1 HC1 bw
  go_wp2_with fail
  refine (rbuild_any _ ga gc gp v6 GB.out.at).mono ?_
  intro e v7 hp
  unfold LibPost at hp
  rw [HFL.out] at hp
  obtain ⟨ab2, cb2, pl2, ap2, cp2, am2, cm2, rfl, hlib, b3⟩ := hp
  have hln := LibN.of HFL.out hlib
  rw [HNM.out]
  have LN2 := Lib.hid hln
  have LB2 := Lib.hid b3
  clear hlib b3 hln
  unfold libV
  go_upto_region 5 with fail
  refine on_told (fun W => LawAt w v3.heap.size v7.heap.size #[.slice ab1 L.length cb1, .slice ap1 s.progs.length cp1, .slice am1 L.length cm1] #[.slice ab2 L.length cb2, .slice ap2 s.progs.length cp2, .slice am2 L.length cm2] L s.progs s.mate L.length s.progs.length ab1 cb1 pl1 ap1 cp1 am1 cm1 ab2 cb2 pl2 ap2 cp2 am2 cm2 W) (by
    have h1 : Below W4.heap.size W4 v7 := belowMore LX.out LB2.out
    have h2 : Below v7.heap.size v7 (v7.alloc (.cells #[.slice ab2 L.length cb2, .slice ap2 s.progs.length cp2, .slice am2 L.length cm2] 42)) := (Below.refl _ _).alloc (Nat.le_refl _) _
    have h3 := belowMore h1 h2
    exact ⟨belowMore (belowMore B6.out LB2.out) h2, R4.out.below h3 R4.out.lt, Blk.new _ _ _, L4.out.under h3, LN2.out.under h2⟩) ?_
  intro W8 h8
  have K8 := Lib.hid h8
  clear h8 R4 L4 LN2 LB2 LX B6 GB B4
  refine region_L (fun W => LawAt w v3.heap.size v7.heap.size #[.slice ab1 L.length cb1, .slice ap1 s.progs.length cp1, .slice am1 L.length cm1] #[.slice ab2 L.length cb2, .slice ap2 s.progs.length cp2, .slice am2 L.length cm2] L s.progs s.mate L.length s.progs.length ab1 cb1 pl1 ap1 cp1 am1 cm1 ab2 cb2 pl2 ap2 cp2 am2 cm2 W) [] (by kernel_rfl) ?_
  have hS0 := K8.out.under ((Below.refl W8.heap.size W8).drew)
  refine one_L 0 (by kernel_rfl) rfl (by kernel_rfl) fun K0 hK0 => ?_
  have HK0 := Lib.hid hK0
  clear hK0
  go_simp
  refine (KA.out _).mono ?_
  rintro e W9 ⟨rfl, b9⟩
  have K9 := Lib.hid (hS0.under b9)
  clear b9 hS0
  have hS0 := K9.out
  refine HK0.out _ _ (fun _ _ => hS0) ?_
  refine take_P 1 (v := .bool false) rfl (by kernel_rfl) (by kernel_rfl) (by kernel_rfl) (fun _ _ _ h => h) (by kernel_rfl) (fun W' => by go_simp) ?_
  refine take_P 2 (v := .bool false) rfl (by kernel_rfl) (by kernel_rfl) (by kernel_rfl) (fun _ _ _ h => h) (by kernel_rfl) (fun W' => by go_simp) ?_
  refine take_P 3 (v := .int .i64 0) rfl (by kernel_rfl) (by kernel_rfl) (by kernel_rfl) (fun _ _ _ h => h) (by kernel_rfl) (fun W' => by go_simp) ?_
  refine take_P 4 (v := .int .i64 0) rfl (by kernel_rfl) (by kernel_rfl) (by kernel_rfl) (fun _ _ _ h => h) (by kernel_rfl) (fun W' => by go_simp) ?_
  refine take_P 5 (v := .bool false) rfl (by kernel_rfl) (by kernel_rfl) (by kernel_rfl) (fun _ _ _ h => h) (by kernel_rfl) (fun W' => by go_simp) ?_
  refine take_P 6 (v := .bool false) rfl (by kernel_rfl) (by kernel_rfl) (by kernel_rfl) (fun _ _ _ h => h) (by kernel_rfl) (fun W' => by go_simp) ?_
  refine take_P 7 (v := .bool false) rfl (by kernel_rfl) (by kernel_rfl) (by kernel_rfl) (fun _ _ _ h => h) (by kernel_rfl) (fun W' => by go_simp) ?_
  refine take_L 8 (v := .agg #[.slice ab1 L.length cb1, .slice ap1 s.progs.length cp1, .slice am1 L.length cm1]) rfl (by kernel_rfl) (by kernel_rfl) (by kernel_rfl) (by kernel_rfl) (fun _ _ _ h => h) (by kernel_rfl) (fun W' hW' => by have e0 := hW'.one.cell' 0 rfl; have e1 := hW'.one.cell' 1 rfl; have e2 := hW'.one.cell' 2 rfl; clear hW'; go_simp) hS0 ?_
  refine take_L 9 (v := .agg #[.slice ab2 L.length cb2, .slice ap2 s.progs.length cp2, .slice am2 L.length cm2]) rfl (by kernel_rfl) (by kernel_rfl) (by kernel_rfl) (by kernel_rfl) (fun _ _ _ h => h) (by kernel_rfl) (fun W' hW' => by have e0 := hW'.two.cell' 0 rfl; have e1 := hW'.two.cell' 1 rfl; have e2 := hW'.two.cell' 2 rfl; clear hW'; go_simp) hS0 ?_
  refine one_L 10 (by kernel_rfl) rfl (by kernel_rfl) fun K10 hK10 => ?_
  have HK10 := Lib.hid hK10
  clear hK10
  go_simp
  refine (K9.out.l1.same K9.out.l2).mono ?_
  rintro e W10 ⟨rfl, b10⟩
  have K10 := Lib.hid (K9.out.under b10)
  clear b10 hS0
  have hS0 := K10.out
  refine HK10.out _ _ (fun _ _ => hS0) ?_
  refine take_P 11 (v := .bool false) rfl (by kernel_rfl) (by kernel_rfl) (by kernel_rfl) (fun _ _ _ h => h) (by kernel_rfl) (fun W' => by go_simp) ?_
  refine take_P 12 (v := .bool false) rfl (by kernel_rfl) (by kernel_rfl) (by kernel_rfl) (fun _ _ _ h => h) (by kernel_rfl) (fun W' => by go_simp) ?_
  refine take_P 13 (v := .bool false) rfl (by kernel_rfl) (by kernel_rfl) (by kernel_rfl) (fun _ _ _ h => h) (by kernel_rfl) (fun W' => by go_simp) ?_
  refine take_L 14 (v := .agg #[.slice ab1 L.length cb1, .slice ap1 s.progs.length cp1, .slice am1 L.length cm1]) rfl (by kernel_rfl) (by kernel_rfl) (by kernel_rfl) (by kernel_rfl) (fun _ _ _ h => h) (by kernel_rfl) (fun W' hW' => by have e0 := hW'.one.cell' 0 rfl; have e1 := hW'.one.cell' 1 rfl; have e2 := hW'.one.cell' 2 rfl; clear hW'; go_simp) hS0 ?_
  refine take_P 15 (v := .int .i64 a1) rfl (by kernel_rfl) (by kernel_rfl) (by kernel_rfl) (fun _ _ _ h => h) (by kernel_rfl) (fun W' => by go_simp) ?_
  refine take_L 17 (v := .agg #[.slice ab2 L.length cb2, .slice ap2 s.progs.length cp2, .slice am2 L.length cm2]) rfl (by kernel_rfl) (by kernel_rfl) (by kernel_rfl) (by kernel_rfl) (fun _ _ _ h => h) (by kernel_rfl) (fun W' hW' => by have e0 := hW'.two.cell' 0 rfl; have e1 := hW'.two.cell' 1 rfl; have e2 := hW'.two.cell' 2 rfl; clear hW'; go_simp) hS0 ?_
  refine take_P 18 (v := .int .i64 a1) rfl (by kernel_rfl) (by kernel_rfl) (by kernel_rfl) (fun _ _ _ h => h) (by kernel_rfl) (fun W' => by go_simp) ?_
  refine one_L 16 (by kernel_rfl) rfl (by kernel_rfl) fun K16 hK16 => ?_
  have HK16 := Lib.hid hK16
  clear hK16
  go_simp
  refine (K10.out.l1.inside a1).mono ?_
  rintro e W11 ⟨ia, ic, rfl, hi1, b11⟩
  have K11 := Lib.hid (K10.out.under b11)
  clear b11 hS0
  have hS0 := K11.out
  refine HK16.out _ _ (fun _ _ => hS0) ?_
  refine one_L 19 (by kernel_rfl) rfl (by kernel_rfl) fun K19 hK19 => ?_
  have HK19 := Lib.hid hK19
  clear hK19
  go_simp
  refine (K11.out.l2.rinside a1).mono ?_
  rintro e W12 ⟨ja, jc, rfl, hi2, b12⟩
  have K12 := Lib.hid (K11.out.under b12)
  have I1 := Lib.hid ((hi1.imp (q := fun _ => True) (fun _ _ _ => trivial)).keep fun q _ hl => b12.block q hl)
  have I2 := Lib.hid hi2
  clear b12 hS0 hi1 hi2
  have hS0 := K12.out
  refine HK19.out _ _ (fun _ _ => hS0) ?_
  refine one_L 20 (by kernel_rfl) rfl (by kernel_rfl) fun K20 hK20 => ?_
  have HK20 := Lib.hid hK20
  clear hK20
  go_simp
  refine (same_nums I1.out I2.out (by have := inR_len s.mate L.length a1; omega)).mono ?_
  rintro e W13 ⟨rfl, b13⟩
  have K13 := Lib.hid (K12.out.under b13)
  clear b13 hS0
  have hS0 := K13.out
  refine HK20.out _ _ (fun _ _ => hS0) ?_
  refine take_P 21 (v := .bool false) rfl (by kernel_rfl) (by kernel_rfl) (by kernel_rfl) (fun _ _ _ h => h) (by kernel_rfl) (fun W' => by go_simp) ?_
  refine take_P 22 (v := .bool false) rfl (by kernel_rfl) (by kernel_rfl) (by kernel_rfl) (fun _ _ _ h => h) (by kernel_rfl) (fun W' => by go_simp) ?_
  refine done_L (by kernel_rfl) ?_ _
  clear HK0 HK10 HK16 HK19 HK20 hS0 K8 K9 K10 K11 K12 I1 I2
  go_simp
  go_wp2_with fail
  go_loopw [11] (fun sv wr => ∃ x : Int, -1 ≤ x ∧ x ≤ L.length + 1 ∧ sv = .int .i64 x ∧ LawAt w v3.heap.size v7.heap.size #[.slice ab1 L.length cb1, .slice ap1 s.progs.length cp1, .slice am1 L.length cm1] #[.slice ab2 L.length cb2, .slice ap2 s.progs.length cp2, .slice am2 L.length cm2] L s.progs s.mate L.length s.progs.length ab1 cb1 pl1 ap1 cp1 am1 cm1 ab2 cb2 pl2 ap2 cp2 am2 cm2 wr) (fun sv _ => (L.length + 1 - intOf sv).toNat)
  case atStart => exact ⟨-1, by omega, by omega, rfl, K13.out⟩
  case round =>
    obtain ⟨x, hx1, hx2, rfl, hat⟩ := hrel
    rename World => W8
    have K8 := Lib.hid hat
    clear hat K13
    by_cases hx : x ≤ L.length
    · have d1 : decide (x ≤ (L.length : Int)) = true := decide_eq_true hx
      go_wp2_with fail
      refine region_L (fun W => LawAt w v3.heap.size v7.heap.size #[.slice ab1 L.length cb1, .slice ap1 s.progs.length cp1, .slice am1 L.length cm1] #[.slice ab2 L.length cb2, .slice ap2 s.progs.length cp2, .slice am2 L.length cm2] L s.progs s.mate L.length s.progs.length ab1 cb1 pl1 ap1 cp1 am1 cm1 ab2 cb2 pl2 ap2 cp2 am2 cm2 W) [] (by kernel_rfl) ?_
      have hS0 := K8.out.under ((Below.refl W8.heap.size W8).drew)
      refine take_L 0 (v := .agg #[.slice ab1 L.length cb1, .slice ap1 s.progs.length cp1, .slice am1 L.length cm1]) rfl (by kernel_rfl) (by kernel_rfl) (by kernel_rfl) (by kernel_rfl) (fun _ _ _ h => h) (by kernel_rfl) (fun W' hW' => by have e0 := hW'.one.cell' 0 rfl; have e1 := hW'.one.cell' 1 rfl; have e2 := hW'.one.cell' 2 rfl; clear hW'; go_simp) hS0 ?_
      refine take_P 1 (v := .int .i64 x) rfl (by kernel_rfl) (by kernel_rfl) (by kernel_rfl) (fun _ _ _ h => h) (by kernel_rfl) (fun W' => by go_simp) ?_
      refine take_L 3 (v := .agg #[.slice ab2 L.length cb2, .slice ap2 s.progs.length cp2, .slice am2 L.length cm2]) rfl (by kernel_rfl) (by kernel_rfl) (by kernel_rfl) (by kernel_rfl) (fun _ _ _ h => h) (by kernel_rfl) (fun W' hW' => by have e0 := hW'.two.cell' 0 rfl; have e1 := hW'.two.cell' 1 rfl; have e2 := hW'.two.cell' 2 rfl; clear hW'; go_simp) hS0 ?_
      refine take_P 4 (v := .int .i64 x) rfl (by kernel_rfl) (by kernel_rfl) (by kernel_rfl) (fun _ _ _ h => h) (by kernel_rfl) (fun W' => by go_simp) ?_
      refine one_L 2 (by kernel_rfl) rfl (by kernel_rfl) fun K2 hK2 => ?_
      have HK2 := Lib.hid hK2
      clear hK2
      go_simp
      refine ((K8.out.under ((Below.refl W8.heap.size W8).drew)).l1.inside x).mono ?_
      rintro e W11 ⟨ia, ic, rfl, hi1, b11⟩
      have K11 := Lib.hid (hS0.under b11)
      clear b11 hS0
      have hS0 := K11.out
      refine HK2.out _ _ (fun _ _ => hS0) ?_
      refine one_L 5 (by kernel_rfl) rfl (by kernel_rfl) fun K5 hK5 => ?_
      have HK5 := Lib.hid hK5
      clear hK5
      go_simp
      refine (K11.out.l2.rinside x).mono ?_
      rintro e W12 ⟨ja, jc, rfl, hi2, b12⟩
      have K12 := Lib.hid (K11.out.under b12)
      have I1 := Lib.hid ((hi1.imp (q := fun _ => True) (fun _ _ _ => trivial)).keep fun q _ hl => b12.block q hl)
      have I2 := Lib.hid hi2
      clear b12 hS0 hi1 hi2
      have hS0 := K12.out
      refine HK5.out _ _ (fun _ _ => hS0) ?_
      refine one_L 6 (by kernel_rfl) rfl (by kernel_rfl) fun K6 hK6 => ?_
      have HK6 := Lib.hid hK6
      clear hK6
      go_simp
      refine (same_nums I1.out I2.out (by have := inR_len s.mate L.length x; omega)).mono ?_
      rintro e W13 ⟨rfl, b13⟩
      have K13 := Lib.hid (K12.out.under b13)
      clear b13 hS0
      have hS0 := K13.out
      refine HK6.out _ _ (fun _ _ => hS0) ?_
      refine take_P 7 (v := .bool false) rfl (by kernel_rfl) (by kernel_rfl) (by kernel_rfl) (fun _ _ _ h => h) (by kernel_rfl) (fun W' => by go_simp) ?_
      refine done_L (by kernel_rfl) ?_ _
      clear HK2 HK5 HK6 hS0 K8 K11 K12 I1 I2
      go_simp
      go_wp2_with fail
      go_roundw
      case rel => exact ⟨x + 1, by omega, by omega, by go_num, K13.out⟩
      case measure => simp [intOf]; omega
    · have d1 : decide (x ≤ (L.length : Int)) = false := decide_eq_false hx
      go_wp2_with fail
      go_ret
      exact ⟨rfl, K8.out.bel⟩
end Go.Proofs.Yteiogjgmedikhaa
