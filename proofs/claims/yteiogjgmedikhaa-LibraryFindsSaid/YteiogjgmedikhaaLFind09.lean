/-
  LibraryFinds.
-/
import Derived.Test.YteiogjgmedikhaaLawP09
import Derived.Test.YteiogjgmedikhaaTapes09
namespace Go.Proofs.Yteiogjgmedikhaa
open Go Go.RowKit
set_option linter.unusedVariables false

set_option maxRecDepth 100000 in
set_option maxHeartbeats 4000000 in
theorem finds_walk (a0 : Option Addr) (len0 cap0 : Nat) (z0 : List Int) (a1 a2 a3 : Int) (w : World) (w0 : IsRow .i64 w a0 len0 cap0 z0) (w1 : (Lit.int .i64 a1).wf = true) (w2 : (Lit.int .i64 a2).wf = true) (w3 : (Lit.int .i64 a3).wf = true) :
    Calls Try.prog 11 #[.slice a0 len0 cap0, .int .i64 a1, .int .i64 a2, .int .i64 a3] w fun e w' => e = .returned (.bool true) ∧ Below w.heap.size w w' := by
  obtain ⟨T, hT⟩ : ∃ T : Tp, T = ⟨len0, fun i => z0.getD i 0⟩ := ⟨_, rfl⟩
  have HT := Lib.hid hT
  clear hT
  obtain ⟨s, hfl⟩ := flow_lib T
  have hnm : s.mate.length = (flowF T).length := (mates_inv _ s (Nat.le_refl _) (buildB_ok hfl).2.2.1).len
  have hn33 := flow_len T
  generalize hL : flowF T = L at *
  have HL := Lib.hid hL
  have HFL := Lib.hid hfl
  have HNM := Lib.hid hnm
  clear hfl hnm hL
  clear w1 w2 w3
  have KL := Lib.hid (light_any w a0 len0 cap0)
  have KA := Lib.hid awake_true
  have W0 := Lib.hid w0
  clear w0
  go_enter Try.func11, Try.ntmps11
  go_wp2_with fail
  refine KL.out.mono ?_
  rintro e w' ⟨rfl, rfl⟩
  by_cases hlen : 120 < len0
  · have dl : decide (len0 ≤ 120) = false := decide_eq_false (by omega)
    go_wp2_with fail
    refine (KA.out _).mono ?_
    rintro e w' ⟨rfl, b9⟩
    go_wp2_with fail
    go_ret
    exact ⟨rfl, b9⟩
  have dl : decide (len0 ≤ 120) = true := decide_eq_true (by omega)
  have BW := Lib.hid (Below.refl w.heap.size w)
  have HLEN := Lib.hid hlen
  clear hlen KL
  go_wp2_with fail
  refine (tape_new _ a0 len0 cap0 z0 (W0.out.below BW.out) (by have := HLEN.out; omega)).mono ?_
  rintro e v1 ⟨rfl, hs, b1⟩
  have bw := BW.out.size
  have hb1 := belowMore BW.out b1
  rw [← HT.out] at hs
  have HS := Lib.hid hs
  have HB1 := Lib.hid hb1
  have HC1 := Lib.hid b1
  clear hs hb1 b1
  go_wp2_with fail
  refine (flow_any v1 _ _ _ _ _ HS.out).mono ?_
  rintro e v2 ⟨fa, fc, fp, rfl, hbs, kx, ht⟩
  rw [HL.out] at hbs ⊢
  have FB := Lib.hid hbs
  have B2 := Lib.hid (ht.below HB1.out bw)
  have LX := Lib.hid (ht.below HC1.out (Nat.le_refl _))
  clear hbs ht HS HB1 HC1 bw
  go_wp2_with fail
  refine (build_any _ fa fc fp v2 FB.out.at).mono ?_
  intro e v3 hp
  unfold LibPost at hp
  rw [HFL.out] at hp
  obtain ⟨ab1, cb1, pl1, ap1, cp1, am1, cm1, rfl, hlib, b3⟩ := hp
  have hln := LibN.of HFL.out hlib
  rw [HNM.out]
  have LN1 := Lib.hid hln
  have LB1 := Lib.hid b3
  clear hlib b3 hln
  unfold libV
  go_wp2_with fail
  refine calls_told (fun W => Below w.heap.size w W ∧ Blk W v3.heap.size 42 #[.slice ab1 L.length cb1, .slice ap1 s.progs.length cp1, .slice am1 L.length cm1] ∧ LibN W L s.progs s.mate L.length s.progs.length ab1 cb1 pl1 ap1 cp1 am1 cm1) ⟨(belowMore B2.out LB1.out).alloc (belowMore B2.out LB1.out).size _, Blk.new v3 _ _, LN1.out.under ((Below.refl v3.heap.size v3).alloc (Nat.le_refl _) _)⟩ ?_
  rintro W4 ⟨b4, r4, l4⟩
  have B4 := Lib.hid b4
  have R4 := Lib.hid r4
  have L4 := Lib.hid l4
  clear b4 r4 l4 LB1 LN1 B2 FB
  go_wp2_with fail
  refine (tape_new _ a0 len0 cap0 z0 (W0.out.below B4.out) (by have := HLEN.out; omega)).mono ?_
  rintro e v1 ⟨rfl, hs, b1⟩
  have bw := B4.out.size
  have hb1 := belowMore B4.out b1
  rw [← HT.out] at hs
  have HS := Lib.hid hs
  have HB1 := Lib.hid hb1
  have HC1 := Lib.hid b1
  clear hs hb1 b1
  go_wp2_with fail
  refine (flow_any v1 _ _ _ _ _ HS.out).mono ?_
  rintro e v6 ⟨ga, gc, gp, rfl, hbs, kx, ht⟩
  rw [HL.out] at hbs ⊢
  have GB := Lib.hid hbs
  have B6 := Lib.hid (ht.below HB1.out bw)
  have LX := Lib.hid (ht.below HC1.out (Nat.le_refl _))
  clear hbs ht HS HB1 HC1 bw
  go_wp2_with fail
  refine (rbuild_any _ ga gc gp v6 GB.out.at).mono ?_
  intro e v7 hp
  unfold LibPost at hp
  rw [HFL.out] at hp
  obtain ⟨ab2, cb2, pl2, ap2, cp2, am2, cm2, rfl, hlib, b3⟩ := hp
  have hln := LibN.of HFL.out hlib
  rw [HNM.out]
  have LN2 := Lib.hid hln
  have LB2 := Lib.hid b3
  clear hlib b3 hln
  unfold libV
  go_upto_region 5 with fail
  refine on_told (fun W => LawAt w v3.heap.size v7.heap.size #[.slice ab1 L.length cb1, .slice ap1 s.progs.length cp1, .slice am1 L.length cm1] #[.slice ab2 L.length cb2, .slice ap2 s.progs.length cp2, .slice am2 L.length cm2] L s.progs s.mate L.length s.progs.length ab1 cb1 pl1 ap1 cp1 am1 cm1 ab2 cb2 pl2 ap2 cp2 am2 cm2 W) (by
    have h1 : Below W4.heap.size W4 v7 := belowMore LX.out LB2.out
    have h2 : Below v7.heap.size v7 (v7.alloc (.cells #[.slice ab2 L.length cb2, .slice ap2 s.progs.length cp2, .slice am2 L.length cm2] 42)) := (Below.refl _ _).alloc (Nat.le_refl _) _
    have h3 := belowMore h1 h2
    exact ⟨belowMore (belowMore B6.out LB2.out) h2, R4.out.below h3 R4.out.lt, Blk.new _ _ _, L4.out.under h3, LN2.out.under h2⟩) ?_
  intro W8 h8
  have K8 := Lib.hid h8
  clear h8 R4 L4 LN2 LB2 LX B6 GB B4
  go_wp2_with fail
  refine (KA.out _).mono ?_
  rintro e W9 ⟨rfl, b9⟩
  have K9 := Lib.hid (K8.out.under b9)
  clear b9
  have e0 := K9.out.one.cell' 0 rfl
  have e1 := K9.out.one.cell' 1 rfl
  have e2 := K9.out.one.cell' 2 rfl
  have f0 := K9.out.two.cell' 0 rfl
  have f1 := K9.out.two.cell' 1 rfl
  have f2 := K9.out.two.cell' 2 rfl
  go_wp2_with fail
  clear e0 e1 e2 f0 f1 f2
  refine (K9.out.l1.same K9.out.l2).mono ?_
  rintro e W10 ⟨rfl, b9⟩
  have K10 := Lib.hid (K9.out.under b9)
  clear b9
  go_wp2_with fail
  have KM := Lib.hid (fun (v n : Int) (h : 1 ≤ n) (h' : n ≤ 1000) W => mod_any v n W h (by omega))
  go_loopw [1, 2, 3, 15] (fun t1 t2 t3 t15 wr => ∃ (i : Nat) (x y z : Int), i ≤ 2 ∧ t1 = .int .i64 x ∧ t2 = .int .i64 y ∧ t3 = .int .i64 z ∧ t15 = .int .i64 i ∧ LawAt w v3.heap.size v7.heap.size #[.slice ab1 L.length cb1, .slice ap1 s.progs.length cp1, .slice am1 L.length cm1] #[.slice ab2 L.length cb2, .slice ap2 s.progs.length cp2, .slice am2 L.length cm2] L s.progs s.mate L.length s.progs.length ab1 cb1 pl1 ap1 cp1 am1 cm1 ab2 cb2 pl2 ap2 cp2 am2 cm2 wr) (fun _ _ _ sv _ => 2 - (intOf sv).toNat)
  case atStart => exact ⟨0, _, _, _, by omega, rfl, rfl, rfl, rfl, K10.out⟩
  case round =>
    obtain ⟨i, x, y, z, hi, rfl, rfl, rfl, rfl, hat⟩ := hrel
    rename World => W8
    have K8 := Lib.hid hat
    clear hat K9 K10
    by_cases hlt : i < 2
    · have d1 : decide (i < 2) = true := decide_eq_true hlt
      have d1' : decide ((i : Int) < 2) = true := decide_eq_true (by omega)
      have KF := Lib.hid (fun W (h : LawAt w v3.heap.size v7.heap.size #[.slice ab1 L.length cb1, .slice ap1 s.progs.length cp1, .slice am1 L.length cm1] #[.slice ab2 L.length cb2, .slice ap2 s.progs.length cp2, .slice am2 L.length cm2] L s.progs s.mate L.length s.progs.length ab1 cb1 pl1 ap1 cp1 am1 cm1 ab2 cb2 pl2 ap2 cp2 am2 cm2 W) => h.l1.find x)
      have KG := Lib.hid (fun W (h : LawAt w v3.heap.size v7.heap.size #[.slice ab1 L.length cb1, .slice ap1 s.progs.length cp1, .slice am1 L.length cm1] #[.slice ab2 L.length cb2, .slice ap2 s.progs.length cp2, .slice am2 L.length cm2] L s.progs s.mate L.length s.progs.length ab1 cb1 pl1 ap1 cp1 am1 cm1 ab2 cb2 pl2 ap2 cp2 am2 cm2 W) => h.l2.rfind x)
      have KH := Lib.hid (fun W (h : LawAt w v3.heap.size v7.heap.size #[.slice ab1 L.length cb1, .slice ap1 s.progs.length cp1, .slice am1 L.length cm1] #[.slice ab2 L.length cb2, .slice ap2 s.progs.length cp2, .slice am2 L.length cm2] L s.progs s.mate L.length s.progs.length ab1 cb1 pl1 ap1 cp1 am1 cm1 ab2 cb2 pl2 ap2 cp2 am2 cm2 W) => h.l1.label x y)
      have KI := Lib.hid (fun W (h : LawAt w v3.heap.size v7.heap.size #[.slice ab1 L.length cb1, .slice ap1 s.progs.length cp1, .slice am1 L.length cm1] #[.slice ab2 L.length cb2, .slice ap2 s.progs.length cp2, .slice am2 L.length cm2] L s.progs s.mate L.length s.progs.length ab1 cb1 pl1 ap1 cp1 am1 cm1 ab2 cb2 pl2 ap2 cp2 am2 cm2 W) => h.l2.rlabel x y)
      have KJ := Lib.hid (fun W (h : LawAt w v3.heap.size v7.heap.size #[.slice ab1 L.length cb1, .slice ap1 s.progs.length cp1, .slice am1 L.length cm1] #[.slice ab2 L.length cb2, .slice ap2 s.progs.length cp2, .slice am2 L.length cm2] L s.progs s.mate L.length s.progs.length ab1 cb1 pl1 ap1 cp1 am1 cm1 ab2 cb2 pl2 ap2 cp2 am2 cm2 W) => h.l1.of' z)
      have KO := Lib.hid (fun W (h : LawAt w v3.heap.size v7.heap.size #[.slice ab1 L.length cb1, .slice ap1 s.progs.length cp1, .slice am1 L.length cm1] #[.slice ab2 L.length cb2, .slice ap2 s.progs.length cp2, .slice am2 L.length cm2] L s.progs s.mate L.length s.progs.length ab1 cb1 pl1 ap1 cp1 am1 cm1 ab2 cb2 pl2 ap2 cp2 am2 cm2 W) => h.l2.rof z)
      generalize findR s.progs x = r1 at *
      generalize lookR L s.progs x y = r2 at *
      generalize ofR s.progs L.length z = r3 at *
      obtain ⟨k1, q1⟩ := r1
      obtain ⟨k2, q2⟩ := r2
      dsimp only at *
      have e0 := K8.out.one.cell' 0 rfl
      have e1 := K8.out.one.cell' 1 rfl
      have e2 := K8.out.one.cell' 2 rfl
      have f0 := K8.out.two.cell' 0 rfl
      have f1 := K8.out.two.cell' 1 rfl
      have f2 := K8.out.two.cell' 2 rfl
      go_wp2_with fail
      clear e0 e1 e2 f0 f1 f2
      refine (KF.out _ K8.out).mono ?_
      rintro e W9 ⟨rfl, b9⟩
      have K9 := Lib.hid (K8.out.under b9)
      clear b9
      have e0 := K9.out.one.cell' 0 rfl
      have e1 := K9.out.one.cell' 1 rfl
      have e2 := K9.out.one.cell' 2 rfl
      have f0 := K9.out.two.cell' 0 rfl
      have f1 := K9.out.two.cell' 1 rfl
      have f2 := K9.out.two.cell' 2 rfl
      go_wp2_with fail
      clear e0 e1 e2 f0 f1 f2
      refine (KG.out _ K9.out).mono ?_
      rintro e W10 ⟨rfl, b9⟩
      have K10 := Lib.hid (K9.out.under b9)
      clear b9
      have e0 := K10.out.one.cell' 0 rfl
      have e1 := K10.out.one.cell' 1 rfl
      have e2 := K10.out.one.cell' 2 rfl
      have f0 := K10.out.two.cell' 0 rfl
      have f1 := K10.out.two.cell' 1 rfl
      have f2 := K10.out.two.cell' 2 rfl
      go_wp2_with fail
      clear e0 e1 e2 f0 f1 f2
      refine (KH.out _ K10.out).mono ?_
      rintro e W11 ⟨rfl, b9⟩
      have K11 := Lib.hid (K10.out.under b9)
      clear b9
      have e0 := K11.out.one.cell' 0 rfl
      have e1 := K11.out.one.cell' 1 rfl
      have e2 := K11.out.one.cell' 2 rfl
      have f0 := K11.out.two.cell' 0 rfl
      have f1 := K11.out.two.cell' 1 rfl
      have f2 := K11.out.two.cell' 2 rfl
      go_wp2_with fail
      clear e0 e1 e2 f0 f1 f2
      refine (KI.out _ K11.out).mono ?_
      rintro e W12 ⟨rfl, b9⟩
      have K12 := Lib.hid (K11.out.under b9)
      clear b9
      clear KF KG KH KI K8 K9 K10 K11
      go_wp2_with fail
      refine region_L (fun W => LawAt w v3.heap.size v7.heap.size #[.slice ab1 L.length cb1, .slice ap1 s.progs.length cp1, .slice am1 L.length cm1] #[.slice ab2 L.length cb2, .slice ap2 s.progs.length cp2, .slice am2 L.length cm2] L s.progs s.mate L.length s.progs.length ab1 cb1 pl1 ap1 cp1 am1 cm1 ab2 cb2 pl2 ap2 cp2 am2 cm2 W) [] (by kernel_rfl) ?_
      have hS0 := K12.out.under ((Below.refl W12.heap.size W12).drew)
      refine take_P 0 (v := .int .i64 (k1 : Nat)) rfl (by kernel_rfl) (by kernel_rfl) (by kernel_rfl) (fun _ _ _ h => h) (by kernel_rfl) (fun W' => by go_simp) ?_
      refine take_P 1 (v := .int .i64 (k1 : Nat)) rfl (by kernel_rfl) (by kernel_rfl) (by kernel_rfl) (fun _ _ _ h => h) (by kernel_rfl) (fun W' => by go_simp) ?_
      refine take_P 2 (v := .bool false) rfl (by kernel_rfl) (by kernel_rfl) (by kernel_rfl) (fun _ _ _ h => h) (by kernel_rfl) (fun W' => by go_simp) ?_
      refine take_P 3 (v := .bool false) rfl (by kernel_rfl) (by kernel_rfl) (by kernel_rfl) (fun _ _ _ h => h) (by kernel_rfl) (fun W' => by go_simp) ?_
      refine take_P 4 (v := .bool q1) rfl (by kernel_rfl) (by kernel_rfl) (by kernel_rfl) (fun _ _ _ h => h) (by kernel_rfl) (fun W' => by go_simp) ?_
      refine take_P 5 (v := .bool q1) rfl (by kernel_rfl) (by kernel_rfl) (by kernel_rfl) (fun _ _ _ h => h) (by kernel_rfl) (fun W' => by go_simp) ?_
      refine take_P 6 (v := .bool false) rfl (by kernel_rfl) (by kernel_rfl) (by kernel_rfl) (fun _ _ _ h => h) (by kernel_rfl) (fun W' => by go_simp) ?_
      refine take_P 7 (v := .bool false) rfl (by kernel_rfl) (by kernel_rfl) (by kernel_rfl) (fun _ _ _ h => h) (by kernel_rfl) (fun W' => by go_simp) ?_
      refine take_P 8 (v := .bool false) rfl (by kernel_rfl) (by kernel_rfl) (by kernel_rfl) (fun _ _ _ h => h) (by kernel_rfl) (fun W' => by go_simp) ?_
      refine take_P 9 (v := .int .i64 (k2 : Nat)) rfl (by kernel_rfl) (by kernel_rfl) (by kernel_rfl) (fun _ _ _ h => h) (by kernel_rfl) (fun W' => by go_simp) ?_
      refine take_P 10 (v := .int .i64 (k2 : Nat)) rfl (by kernel_rfl) (by kernel_rfl) (by kernel_rfl) (fun _ _ _ h => h) (by kernel_rfl) (fun W' => by go_simp) ?_
      refine take_P 11 (v := .bool false) rfl (by kernel_rfl) (by kernel_rfl) (by kernel_rfl) (fun _ _ _ h => h) (by kernel_rfl) (fun W' => by go_simp) ?_
      refine take_P 12 (v := .bool false) rfl (by kernel_rfl) (by kernel_rfl) (by kernel_rfl) (fun _ _ _ h => h) (by kernel_rfl) (fun W' => by go_simp) ?_
      refine take_P 13 (v := .bool false) rfl (by kernel_rfl) (by kernel_rfl) (by kernel_rfl) (fun _ _ _ h => h) (by kernel_rfl) (fun W' => by go_simp) ?_
      refine take_P 14 (v := .bool q2) rfl (by kernel_rfl) (by kernel_rfl) (by kernel_rfl) (fun _ _ _ h => h) (by kernel_rfl) (fun W' => by go_simp) ?_
      refine take_P 15 (v := .bool q2) rfl (by kernel_rfl) (by kernel_rfl) (by kernel_rfl) (fun _ _ _ h => h) (by kernel_rfl) (fun W' => by go_simp) ?_
      refine take_P 16 (v := .bool false) rfl (by kernel_rfl) (by kernel_rfl) (by kernel_rfl) (fun _ _ _ h => h) (by kernel_rfl) (fun W' => by go_simp) ?_
      refine take_P 17 (v := .bool false) rfl (by kernel_rfl) (by kernel_rfl) (by kernel_rfl) (fun _ _ _ h => h) (by kernel_rfl) (fun W' => by go_simp) ?_
      refine take_P 18 (v := .bool false) rfl (by kernel_rfl) (by kernel_rfl) (by kernel_rfl) (fun _ _ _ h => h) (by kernel_rfl) (fun W' => by go_simp) ?_
      refine take_L 19 (v := .agg #[.slice ab1 L.length cb1, .slice ap1 s.progs.length cp1, .slice am1 L.length cm1]) rfl (by kernel_rfl) (by kernel_rfl) (by kernel_rfl) (by kernel_rfl) (fun _ _ _ h => h) (by kernel_rfl) (fun W' hW' => by have e0 := hW'.one.cell' 0 rfl; have e1 := hW'.one.cell' 1 rfl; have e2 := hW'.one.cell' 2 rfl; clear hW'; go_simp) hS0 ?_
      refine take_P 20 (v := .int .i64 z) rfl (by kernel_rfl) (by kernel_rfl) (by kernel_rfl) (fun _ _ _ h => h) (by kernel_rfl) (fun W' => by go_simp) ?_
      refine take_L 22 (v := .agg #[.slice ab2 L.length cb2, .slice ap2 s.progs.length cp2, .slice am2 L.length cm2]) rfl (by kernel_rfl) (by kernel_rfl) (by kernel_rfl) (by kernel_rfl) (fun _ _ _ h => h) (by kernel_rfl) (fun W' hW' => by have e0 := hW'.two.cell' 0 rfl; have e1 := hW'.two.cell' 1 rfl; have e2 := hW'.two.cell' 2 rfl; clear hW'; go_simp) hS0 ?_
      refine take_P 23 (v := .int .i64 z) rfl (by kernel_rfl) (by kernel_rfl) (by kernel_rfl) (fun _ _ _ h => h) (by kernel_rfl) (fun W' => by go_simp) ?_
      refine one_L 21 (by kernel_rfl) rfl (by kernel_rfl) fun K21 hK21 => ?_
      have HK21 := Lib.hid hK21
      clear hK21
      go_simp
      refine (KJ.out _ hS0).mono ?_
      rintro e W13 ⟨rfl, b13⟩
      have K13 := Lib.hid (hS0.under b13)
      clear b13 hS0
      have hS0 := K13.out
      refine HK21.out _ _ (fun _ _ => hS0) ?_
      refine one_L 24 (by kernel_rfl) rfl (by kernel_rfl) fun K24 hK24 => ?_
      have HK24 := Lib.hid hK24
      clear hK24
      go_simp
      refine (KO.out _ hS0).mono ?_
      rintro e W14 ⟨rfl, b14⟩
      have K14 := Lib.hid (hS0.under b14)
      clear b14 hS0
      have hS0 := K14.out
      refine HK24.out _ _ (fun _ _ => hS0) ?_
      refine take_P 25 (v := .bool false) rfl (by kernel_rfl) (by kernel_rfl) (by kernel_rfl) (fun _ _ _ h => h) (by kernel_rfl) (fun W' => by go_simp) ?_
      refine take_P 26 (v := .bool false) rfl (by kernel_rfl) (by kernel_rfl) (by kernel_rfl) (fun _ _ _ h => h) (by kernel_rfl) (fun W' => by go_simp) ?_
      refine done_L (by kernel_rfl) ?_ _
      clear HK21 HK24 hS0 K12 K13 KJ KO
      go_simp
      go_wp2_with (go_at_call 19; refine (KM.out _ _ (by decide) (by decide) _).mono ?_; rintro e w' ⟨rfl, rfl⟩)
      go_roundw
      case rel => exact ⟨i + 1, _, _, _, by omega, rfl, rfl, rfl, by go_num, K14.out⟩
      case measure => simp [intOf]; omega
    · have d1 : decide (i < 2) = false := decide_eq_false hlt
      have d1' : decide ((i : Int) < 2) = false := decide_eq_false (by omega)
      go_wp2_with fail
      go_ret
      exact ⟨rfl, K8.out.bel⟩
end Go.Proofs.Yteiogjgmedikhaa
