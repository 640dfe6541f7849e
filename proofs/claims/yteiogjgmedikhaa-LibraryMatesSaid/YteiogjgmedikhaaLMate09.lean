/-
  LibraryMates.
-/
import Derived.Test.YteiogjgmedikhaaBuilt09
import Derived.Test.YteiogjgmedikhaaLLab09
namespace Go.Proofs.Yteiogjgmedikhaa
open Go Go.RowKit
set_option linter.unusedVariables false

theorem stepB_err {bs : List BlkL} {b : BlkL} {i a : Nat} {s : StL} {e : Int} (h : stepB bs b i s = .err a e) : e ≠ 0 := by
  unfold stepB at h
  repeat' split at h
  all_goals first | (injection h with _ h; omega) | cases h
theorem runB_err' {bs : List BlkL} {a : Nat} {e : Int} : ∀ i, runB bs i = .err a e → e ≠ 0
  | 0, h => by unfold runB at h; cases h
  | i + 1, h => by
    unfold runB at h
    cases hr : runB bs i with
    | err a' e' =>
      rw [hr] at h
      injection h with h1 h2
      subst h1 h2
      exact runB_err' i hr
    | ok s =>
      rw [hr] at h
      simp only at h
      split at h
      · exact stepB_err h
      · cases h
theorem buildB_err {bs : List BlkL} {a : Nat} {e : Int} (h : buildB bs = .err a e) : e ≠ 0 := by
  unfold buildB at h
  split at h
  · injection h with _ h; omega
  split at h
  · injection h with _ h; omega
  cases hr : runB bs bs.length with
  | err a' e' =>
    rw [hr] at h
    injection h with h1 h2
    subst h1 h2
    exact runB_err' _ hr
  | ok s =>
    rw [hr] at h
    simp only at h
    split at h
    · cases h
    · injection h with _ h; omega
theorem intC_cell {W : World} {M : List Int} {b o : Nat} (h : TabAt W (some ⟨b, o, none⟩) 1 M.length (intC M)) {i : Nat} (hi : i < M.length) : W.cell? ⟨b, o + i, none⟩ = some (.int .i64 (M.getD i (-1))) := by
  obtain ⟨_, b', o', e, hb, hc⟩ := h i hi
  injection e with e
  injection e with e1 e2
  subst e1 e2
  have := hc 0 (by decide)
  simp only [Nat.mul_one, Nat.add_zero] at this
  rw [this]
  show some (Value.int .i64 (M.getD i 0)) = _
  simp [List.getD, List.getElem?_eq_getElem hi]
theorem blk_kind {W : World} {bs : List BlkL} {sb so cap : Nat} {pl : Nat → Place} (h : BlksAt W bs (some ⟨sb, so, none⟩) cap pl) {t : Nat} (ht : t < bs.length) : W.cell? ⟨sb, so + t * 11, none⟩ = some (.int .i64 (kindAt bs t)) := by
  have hb := List.getElem?_eq_getElem ht
  obtain ⟨_, b, o, e, _, hc⟩ := h.tab t ht
  injection e with e
  injection e with e1 e2
  subst e1 e2
  have := hc 0 (by decide)
  rw [blksC_at hb] at this
  rw [kindAt_of hb]
  exact this
set_option maxRecDepth 100000 in
set_option maxHeartbeats 4000000 in
theorem mates_walk (a0 : Option Addr) (len0 cap0 : Nat) (z0 : List Int) (w : World) (w0 : IsRow .i64 w a0 len0 cap0 z0) :
    Calls Try.prog 5 #[.slice a0 len0 cap0] w fun e w' => e = .returned (.bool true) ∧ Below w.heap.size w w' := by
  obtain ⟨T, hT⟩ : ∃ T : Tp, T = ⟨len0, fun i => z0.getD i 0⟩ := ⟨_, rfl⟩
  have HT := Lib.hid hT
  clear hT
  have hn33 := flow_len T
  have hn13 := random_len T
  have HN := Lib.hid (And.intro hn33 hn13)
  clear hn33 hn13
  have KL := Lib.hid (light_any w a0 len0 cap0)
  have KA := Lib.hid awake_true
  have W0 := Lib.hid w0
  clear w0
  go_enter Try.func5, Try.ntmps5
  go_wp2_with fail
  refine KL.out.mono ?_
  rintro e w' ⟨rfl, rfl⟩
  by_cases hlen : 120 < len0
  · have dl : decide (len0 ≤ 120) = false := decide_eq_false (by omega)
    go_wp2_with fail
    refine (KA.out _).mono ?_
    rintro e w' ⟨rfl, b9⟩
    go_wp2_with fail
    go_ret
    exact ⟨rfl, b9⟩
  have dl : decide (len0 ≤ 120) = true := decide_eq_true (by omega)
  have BW := Lib.hid (Below.refl w.heap.size w)
  have HLEN := Lib.hid hlen
  clear hlen KL
  go_wp2_with fail
  refine (tape_new _ a0 len0 cap0 z0 (W0.out.below BW.out) (by have := HLEN.out; omega)).mono ?_
  rintro e v1 ⟨rfl, hs, b1⟩
  rw [← HT.out] at hs
  have bw := BW.out.size
  have HS1 := Lib.hid hs
  have HC1 := Lib.hid b1
  have HB1 := Lib.hid (belowMore BW.out b1)
  clear hs b1
  go_wp2_with fail
  refine (random_any v1 _ _ _ _ _ HS1.out).mono ?_
  rintro e v2 ⟨fa, fc, fp, rfl, hbs, kx, ht⟩
  have FB := Lib.hid hbs.at
  have B2 := Lib.hid (ht.below HB1.out bw)
  clear hbs ht HS1 HB1 HC1 bw
  generalize randomF T = L1 at *
  go_wp2_with fail
  refine (tape_new _ a0 len0 cap0 z0 (W0.out.below B2.out) (by have := HLEN.out; omega)).mono ?_
  rintro e v3 ⟨rfl, hs, b1⟩
  rw [← HT.out] at hs
  have bw := B2.out.size
  have HS3 := Lib.hid hs
  have HC3 := Lib.hid b1
  have HB3 := Lib.hid (belowMore B2.out b1)
  clear hs b1
  have KN := Lib.hid (next_any v3 _ _ _ _ T 0 3 HS3.out (by decide) (by decide))
  have l1 := nextF_lo T 0 (m := 3) (by decide)
  generalize nextF T 0 3 = sx at *
  obtain ⟨nv, k3⟩ := sx
  dsimp only at *
  go_wp2_with fail
  refine KN.out.mono ?_
  rintro e v4 ⟨rfl, t4⟩
  have B4 := Lib.hid (t4.below HB3.out bw)
  have X4 := Lib.hid (t4.below HC3.out (Nat.le_refl _))
  clear t4 KN HS3 HC3 HB3 bw
  go_upto_if 21 with fail
  go_cut [3] (fun s3 W => Below w.heap.size w W ∧ ∃ (bs : List BlkL) (a : Option Addr) (cap : Nat) (pl : Nat → Place), Value.slice a bs.length cap = s3 ∧ BlksAt W bs a cap pl ∧ bs.length ≤ 33)
  case first =>
    by_cases hnv : 0 < nv
    · have d1 : decide (0 < nv) = true := decide_eq_true hnv
      rw [d1]
      clear hnv d1
      go_wp2_with fail
      refine (tape_new _ a0 len0 cap0 z0 (W0.out.below B4.out) (by have := HLEN.out; omega)).mono ?_
      rintro e v5 ⟨rfl, hs, b1⟩
      rw [← HT.out] at hs
      have bw := B4.out.size
      have HS5 := Lib.hid hs
      have HC5 := Lib.hid b1
      have HB5 := Lib.hid (belowMore B4.out b1)
      clear hs b1
      go_wp2_with fail
      refine (flow_any v5 _ _ _ _ _ HS5.out).mono ?_
      rintro e v6 ⟨ga, gc, gp, rfl, hbs, kx, ht⟩
      have GB := Lib.hid hbs.at
      have B6 := Lib.hid (ht.below HB5.out bw)
      clear hbs ht HS5 HB5 HC5 bw
      go_wp2_with fail
      go_meet
      exact ⟨B6.out, flowF T, ga, gc, gp, rfl, GB.out, HN.out.1⟩
    · have d1 : decide (0 < nv) = false := decide_eq_false hnv
      go_wp2_with fail
      go_meet
      exact ⟨B4.out, L1, fa, fc, fp, rfl, FB.out.under X4.out, by have := HN.out.2; omega⟩
  case rest =>
    obtain ⟨hb, bs, a, cap, pl, rfl, hat, hn33⟩ := hcut
    have BC := Lib.hid hb
    have HB := Lib.hid hat
    clear hb hat B2 FB HN B4 X4
    go_wp2_with fail
    refine (build_any bs a cap pl wc HB.out).mono ?_
    intro e v7 hp
    cases hbb : buildB bs with
    | err ea ec =>
      unfold LibPost at hp
      rw [hbb] at hp
      obtain ⟨rfl, b7⟩ := hp
      have hne : (ec != 0) = true := by
        have := buildB_err hbb
        simpa using this
      have B7 := Lib.hid (belowMore BC.out b7)
      clear b7
      unfold libV
      have hbx := (B7.out.alloc B7.out.size (.cells #[.slice none 0 0, .slice none 0 0, .slice none 0 0] 42))
      have B8 := Lib.hid hbx
      have R8 := Lib.hid (Blk.new v7 42 #[.slice none 0 0, .slice none 0 0, .slice none 0 0])
      clear hbx
      go_wp2_with fail
      refine (KA.out _).mono ?_
      rintro e W9 ⟨rfl, b9⟩
      have R9 := R8.out.below b9 R8.out.lt
      have e0 := R9.cell 0
      have e1 := R9.cell 1
      have e2 := R9.cell 2
      have B9 := Lib.hid (belowMore B8.out b9)
      clear b9 R9
      go_wp2_with fail
      go_ret
      exact ⟨rfl, B9.out⟩
    | ok s =>
      have hpp := res_of hp
      have hro : resOf bs = ⟨bs, s.progs, s.mate, bs.length, s.progs.length, bs.length, 0⟩ := by unfold resOf; rw [hbb]
      rw [hro] at hpp
      obtain ⟨ab, cb, pl1, ap, cp, am, cm, rfl, hln, b7⟩ := hpp
      dsimp only at *
      have hmi := mates_inv _ s (Nat.le_refl _) (buildB_ok hbb).2.2.1
      have hop := (buildB_ok hbb).2.2.2
      have HM := Lib.hid hmi
      have HO := Lib.hid hop
      clear hp hro hmi hop
      have LN := Lib.hid hln
      have LB := Lib.hid b7
      clear hln b7
      go_upto_region 7 with fail
      refine on_told (fun W => LawOne w v7.heap.size #[.slice ab bs.length cb, .slice ap s.progs.length cp, .slice am bs.length cm] bs s.progs s.mate bs.length s.progs.length ab cb pl1 ap cp am cm W ∧ BlksAt W bs a cap pl) ⟨⟨(belowMore BC.out LB.out).alloc (belowMore BC.out LB.out).size _, Blk.new v7 _ _, LN.out.under ((Below.refl v7.heap.size v7).alloc (Nat.le_refl _) _)⟩, (HB.out.under LB.out).under ((Below.refl v7.heap.size v7).alloc (Nat.le_refl _) _)⟩ ?_
      rintro W8 ⟨h8, hb8⟩
      have K8 := Lib.hid h8
      have HB8 := Lib.hid hb8
      clear h8 hb8 LN LB BC HB
      go_wp2_with fail
      refine (KA.out _).mono ?_
      rintro e W9 ⟨rfl, b9⟩
      have K9 := Lib.hid (K8.out.under b9)
      have HB9 := Lib.hid (HB8.out.under b9)
      have hnn : ((bs.length : Int) != bs.length) = false := by simp
      have e0 := K9.out.one.cell' 0 rfl
      have e1 := K9.out.one.cell' 1 rfl
      have e2 := K9.out.one.cell' 2 rfl
      clear b9 K8 HB8
      go_wp2_with fail
      clear e0 e1 e2
      refine (same_all bs ab a cb cap pl1 pl W9 K9.out.l1.slim K9.out.l1.lib.blks HB9.out (by omega)).mono ?_
      rintro e W10 ⟨rfl, b10⟩
      have K10 := Lib.hid (K9.out.under b10)
      have HB10 := Lib.hid (HB9.out.under b10)
      clear b10 K9 HB9
      go_wp2_with fail
      clear hnn
      go_loopw [7] (fun t7 wr => ∃ i : Nat, i ≤ bs.length ∧ t7 = .int .i64 i ∧ LawOne w v7.heap.size #[.slice ab bs.length cb, .slice ap s.progs.length cp, .slice am bs.length cm] bs s.progs s.mate bs.length s.progs.length ab cb pl1 ap cp am cm wr ∧ BlksAt wr bs a cap pl) (fun sv _ => bs.length - (intOf sv).toNat)
      case atStart => exact ⟨0, by omega, rfl, K10.out, HB10.out⟩
      case round =>
        obtain ⟨i, hi, rfl, hat, hbat⟩ := hrel
        rename World => W8
        have K8 := Lib.hid hat
        have HB8 := Lib.hid hbat
        clear hat hbat K10 HB10
        by_cases hlt : i < bs.length
        · have i0 : (0 : Int) ≤ (i : Int) := by omega
          have i1 : (i : Int) < (bs.length : Int) := by omega
          have d1 : decide (i < bs.length) = true := decide_eq_true hlt
          have hlm : i < s.mate.length := by rw [K8.out.l1.nm]; exact hlt
          obtain ⟨hx0, mb, mo, rfl, hx1, hx2⟩ := K8.out.l1.lib.mate i hlm
          obtain ⟨hx3, sb, so, rfl, hx4, hx5⟩ := HB8.out.tab i hlt
          clear hx0 hx1 hx2 hx3 hx4 hx5
          have KM := Lib.hid (fun W (h : LawOne w v7.heap.size #[.slice ab bs.length cb, .slice ap s.progs.length cp, .slice (some ⟨mb, mo, none⟩) bs.length cm] bs s.progs s.mate bs.length s.progs.length ab cb pl1 ap cp (some ⟨mb, mo, none⟩) cm W) (j : Nat) (hj : j < bs.length) => intC_cell h.l1.lib.mate (i := j) (by rw [h.l1.nm]; exact hj))
          have KK := Lib.hid (fun W (h : BlksAt W bs (some ⟨sb, so, none⟩) cap pl) (j : Nat) (hj : j < bs.length) => blk_kind h hj)
          have KN := Lib.hid (fun W (h : BlksAt W bs (some ⟨sb, so, none⟩) cap pl) (j : Nat) (hj : j < bs.length) => blk_n h hj)
          have e2 := K8.out.one.cell' 2 rfl
          have m0 := KM.out _ K8.out i hlt
          have k0 := KK.out _ HB8.out i hlt
          have HLT := Lib.hid hlt
          clear hlm
          by_cases h4 : kindAt bs i = 4
          · obtain ⟨m, hmm⟩ := (HM.out.four i hlt h4).resolve_left (by rw [HO.out]; simp)
            obtain ⟨p1, p2, p3, p4⟩ := HM.out.pair i m hlt hmm
            have h5 : kindAt bs m = 5 ∧ i < m := by
              rcases p4 with p4 | p4
              · exact p4.2
              · have := p4.1; omega
            have n1 := KN.out _ HB8.out m p1
            have n2 := KN.out _ HB8.out i hlt
            have k1 := KK.out _ HB8.out m p1
            have m1 := KM.out _ K8.out m p1
            rw [p3] at n1
            rw [hmm] at m0
            rw [h4] at k0
            rw [h5.1] at k1
            rw [p2] at m1
            have hne := fun k j => HM.out.nest i m k j
            have hnn := HM.out
            have him := h5.2
            have HX := Lib.hid (And.intro p1 (And.intro him (And.intro hmm h4)))
            clear h4 hmm p2 p3 p4 h5 hne hnn
            have d2 : decide (bs.length ≤ m) = false := decide_eq_false (by omega)
            have d2' : decide ((bs.length : Int) ≤ (m : Int)) = false := decide_eq_false (by omega)
            have d3 : decide (i < m) = true := decide_eq_true him
            have d3' : decide ((i : Int) < (m : Int)) = true := decide_eq_true (by omega)
            have d4 : decide (0 ≤ (m : Int)) = true := decide_eq_true (by omega)
            have m2 : (0 : Int) ≤ (m : Int) := by omega
            have m3 : (m : Int) < (bs.length : Int) := by omega
            have q1 : ((i : Int) != i) = false := by simp
            have q2 : (nOf bs i != nOf bs i) = false := by simp
            generalize nOf bs i = nn at *
            go_wp2_with fail
            go_quiet (fail)
            go_wp2_with fail
            clear q1 q2 n1 n2 k0 k1 m0 m1 e2
            go_loopw [10] (fun t10 wr => ∃ j : Nat, i < j ∧ j ≤ m ∧ t10 = .int .i64 j ∧ LawOne w v7.heap.size #[.slice ab bs.length cb, .slice ap s.progs.length cp, .slice (some ⟨mb, mo, none⟩) bs.length cm] bs s.progs s.mate bs.length s.progs.length ab cb pl1 ap cp (some ⟨mb, mo, none⟩) cm wr ∧ BlksAt wr bs (some ⟨sb, so, none⟩) cap pl) (fun sv _ => m - (intOf sv).toNat)
            case atStart => exact ⟨i + 1, by omega, by omega, by simp, K8.out.under (below_drewN (Below.refl _ _) _), HB8.out.under (below_drewN (Below.refl _ _) _)⟩
            case round =>
              obtain ⟨j, hj1, hj2, rfl, hat, hbat⟩ := hrel
              rename World => W11
              have K11 := Lib.hid hat
              have HB11 := Lib.hid hbat
              clear hat hbat K8 HB8
              by_cases hjm : j < m
              · have hjn : j < bs.length := by omega
                have e2 := K11.out.one.cell' 2 rfl
                have m0 := KM.out _ K11.out j hjn
                have j0 : (0 : Int) ≤ (j : Int) := by omega
                have j1 : (j : Int) < (bs.length : Int) := by omega
                have d5 : decide (j < m) = true := decide_eq_true hjm
                have hnn := HM.out.nest i m j
                have hms := HX.out.2.2.1
                have hp1 := HX.out.1
                have hneg : 0 ≤ s.mate.getD j (-1) → ∃ q : Nat, s.mate.getD j (-1) = q := fun h => ⟨(s.mate.getD j (-1)).toNat, by omega⟩
                generalize s.mate.getD j (-1) = mv at *
                by_cases hmv : 0 ≤ mv
                · obtain ⟨q, rfl⟩ := hneg hmv
                  have hq := hnn q (by omega) hjm hp1 hms rfl
                  have d6 : decide (0 ≤ (q : Int)) = true := decide_eq_true (by omega)
                  have d7 : decide (q < i) = false := decide_eq_false (by omega)
                  have d7' : decide ((q : Int) < (i : Int)) = false := decide_eq_false (by omega)
                  have d8 : decide (m < q) = false := decide_eq_false (by omega)
                  have d8' : decide ((m : Int) < (q : Int)) = false := decide_eq_false (by omega)
                  clear hnn hms hneg hq
                  go_wp2_with fail
                  clear e2 m0
                  go_roundw
                  case rel => exact ⟨j + 1, by omega, by omega, by go_num, K11.out, HB11.out⟩
                  case measure => simp [intOf]; omega
                · have d6 : decide (0 ≤ mv) = false := decide_eq_false hmv
                  clear hnn hms hneg
                  go_wp2_with fail
                  clear e2 m0
                  go_roundw
                  case rel => exact ⟨j + 1, by omega, by omega, by go_num, K11.out, HB11.out⟩
                  case measure => simp [intOf]; omega
              · have d5 : decide (j < m) = false := decide_eq_false hjm
                have d5' : decide ((j : Int) < (m : Int)) = false := decide_eq_false (by omega)
                go_wp2_with fail
                go_roundw
                case rel => exact ⟨i + 1, HLT.out, by go_num, K11.out, HB11.out⟩
                case measure => have := HLT.out; simp [intOf]; omega
          · have f4 : (kindAt bs i == 4) = false := by simpa using h4
            by_cases h5 : kindAt bs i = 5
            · obtain ⟨m, hmm⟩ := HM.out.five i hlt h5
              obtain ⟨p1, p2, p3, p4⟩ := HM.out.pair i m hlt hmm
              have h5' : kindAt bs m = 4 ∧ m < i := by
                rcases p4 with p4 | p4
                · exact absurd p4.1 h4
                · exact p4.2
              have n1 := KN.out _ HB8.out m p1
              have n2 := KN.out _ HB8.out i hlt
              have k1 := KK.out _ HB8.out m p1
              have m1 := KM.out _ K8.out m p1
              rw [p3] at n1
              rw [hmm] at m0
              rw [h5] at k0
              rw [h5'.1] at k1
              rw [p2] at m1
              have him := h5'.2
              clear h4 f4 h5 hmm p2 p3 p4 h5'
              have d2 : decide (bs.length ≤ m) = false := decide_eq_false (by omega)
              have d2' : decide ((bs.length : Int) ≤ (m : Int)) = false := decide_eq_false (by omega)
              have d3 : decide (i < m) = false := decide_eq_false (by omega)
              have d3' : decide ((i : Int) < (m : Int)) = false := decide_eq_false (by omega)
              have d9' : decide ((i : Int) + 1 < (m : Int)) = false := decide_eq_false (by omega)
              have d4 : decide (0 ≤ (m : Int)) = true := decide_eq_true (by omega)
              have m2 : (0 : Int) ≤ (m : Int) := by omega
              have m3 : (m : Int) < (bs.length : Int) := by omega
              have q1 : ((i : Int) != i) = false := by simp
              have q2 : (nOf bs i != nOf bs i) = false := by simp
              generalize nOf bs i = nn at *
              go_wp2_with fail
              go_quiet (fail)
              go_wp2_with fail
              clear q1 q2 n1 n2 k0 k1 m0 m1 e2
              go_loopw [10] (fun t10 wr => t10 = .int .i64 ((i : Int) + 1) ∧ LawOne w v7.heap.size #[.slice ab bs.length cb, .slice ap s.progs.length cp, .slice (some ⟨mb, mo, none⟩) bs.length cm] bs s.progs s.mate bs.length s.progs.length ab cb pl1 ap cp (some ⟨mb, mo, none⟩) cm wr ∧ BlksAt wr bs (some ⟨sb, so, none⟩) cap pl) (fun sv _ => 0)
              case atStart => exact ⟨rfl, K8.out.under (below_drewN (Below.refl _ _) _), HB8.out.under (below_drewN (Below.refl _ _) _)⟩
              case round =>
                obtain ⟨rfl, hat, hbat⟩ := hrel
                have K11 := Lib.hid hat
                have HB11 := Lib.hid hbat
                clear hat hbat K8 HB8
                go_wp2_with fail
                go_roundw
                case rel => exact ⟨i + 1, HLT.out, by go_num, K11.out, HB11.out⟩
                case measure => have := HLT.out; simp [intOf]; omega
            · have f5 : (kindAt bs i == 5) = false := by simpa using h5
              have hno := HM.out.none i hlt h4 h5
              rw [hno] at m0
              have d2 : decide ((bs.length : Int) ≤ -1) = false := decide_eq_false (by omega)
              clear hno h4 h5
              generalize kindAt bs i = kd at *
              go_wp2_with fail
              clear m0 k0 e2
              go_roundw
              case rel => exact ⟨i + 1, HLT.out, by go_num, K8.out, HB8.out⟩
              case measure => have := HLT.out; simp [intOf]; omega
        · have d1 : decide (i < bs.length) = false := decide_eq_false hlt
          have d1' : decide ((i : Int) < (bs.length : Int)) = false := decide_eq_false (by omega)
          go_wp2_with fail
          go_ret
          exact ⟨rfl, K8.out.bel⟩
end Go.Proofs.Yteiogjgmedikhaa
