/-
  cncref01: cmp, mag, sign, product, Cmp: positive numbers below 2^44.
-/
import Derived.Test.YtefdjdipbnnoaaaDoorBig17
namespace Go.Proofs.YtefdjdipbnnoaaaDoor
open Go Go.RowKit
set_option linter.unusedVariables false

theorem cmpV_lt {x y : Nat} (h : x < y) : cmpV x y = -1 := if_pos h
theorem cmpV_gt {x y : Nat} (h : y < x) : cmpV x y = 1 := by unfold cmpV; rw [if_neg (by omega), if_neg (by omega)]
theorem cmpV_eq {x y : Nat} (h : x = y) : cmpV x y = 0 := by unfold cmpV; rw [if_neg (by omega), if_pos h]
set_option maxRecDepth 100000 in
set_option maxHeartbeats 1000000 in
theorem rcmp_any (a b : Option Addr) (ca cb : Nat) (la lb : List Nat) (w : World) (ha : U64At w a la) (hb : U64At w b lb) (na : Norm la) (nb : Norm lb) (hla : la.length ≤ 6) (hlb : lb.length ≤ 6) :
    Calls Tryd.prog 86 #[.slice a la.length ca, .slice b lb.length cb] w fun e w' => e = .returned (.int .i64 (cmpV (lval la) (lval lb))) ∧ Below w.heap.size w w' := by
  rcases Nat.lt_trichotomy la.length lb.length with h | h | h
  · rw [cmpV_lt (lval_len_lt na.1 nb h)]
    obtain ⟨n, hn⟩ : ∃ n, la.length = n := ⟨_, rfl⟩
    obtain ⟨m, hm⟩ : ∃ n, lb.length = n := ⟨_, rfl⟩
    rw [hn] at h hla ⊢
    rw [hm] at h hlb ⊢
    clear hn hm na nb ha hb
    have d0 : ((n : Int) == (m : Int)) = false := by simp; omega
    have d00 : decide ((n : Int) = (m : Int)) = false := decide_eq_false (by omega)
    have d01 : decide (n = m) = false := decide_eq_false (by omega)
    have d1 : decide (n < m) = true := decide_eq_true h
    have d1' : decide ((n : Int) < (m : Int)) = true := decide_eq_true (by omega)
    go_enter Tryd.func86, Tryd.ntmps86
    go_wp2_with fail
    go_ret
    exact ⟨rfl, Below.refl _ _⟩
  · obtain ⟨n, hn⟩ : ∃ n, la.length = n := ⟨_, rfl⟩
    have HLA := Lib.hid hn
    have HLB := Lib.hid (show lb.length = n by omega)
    rw [hn] at h hla ⊢
    rw [← h]
    have HA := Lib.hid ha
    have HB := Lib.hid hb
    have NA := Lib.hid na.1
    have NB := Lib.hid nb.1
    clear hn h ha hb na nb hlb
    go_enter Tryd.func86, Tryd.ntmps86
    go_wp2_with fail
    go_loopw [5] (fun s5 wr => ∃ (i q : Nat), i ≤ n ∧ s5 = .int .i64 ((i : Int) - 1) ∧ Hid (∀ j, i ≤ j → la[j]? = lb[j]?) ∧ wr = w.drewN q) (fun s5 _ => ((intOf s5) + 1).toNat)
    case atStart => exact ⟨n, 0, Nat.le_refl _, rfl, Lib.hid (fun j hj => by rw [List.getElem?_eq_none (by rw [HLA.out]; omega), List.getElem?_eq_none (by rw [HLB.out]; omega)]), rfl⟩
    case round =>
      obtain ⟨i, q, hi, rfl, HQ, rfl⟩ := hrel
      have belq : Below w.heap.size w (w.drewN q) := below_drewN (Below.refl _ _) q
      rcases i with _ | i
      · have e : la = lb := List.ext_getElem? fun j => HQ.out j (Nat.zero_le _)
        have E := Lib.hid (cmpV_eq (congrArg lval e))
        clear e
        go_wp2_with fail
        go_ret
        exact ⟨ret_int E.out.symm, belq⟩
      · have e1 : ((i + 1 : Nat) : Int) - 1 = (i : Int) := by omega
        rw [e1]
        obtain ⟨x, hx⟩ : ∃ x, la[i]? = some x := ⟨_, List.getElem?_eq_getElem (by rw [HLA.out]; omega)⟩
        obtain ⟨y, hy⟩ : ∃ x, lb[i]? = some x := ⟨_, List.getElem?_eq_getElem (by rw [HLB.out]; omega)⟩
        obtain ⟨b1, o1, rfl, _, c1⟩ := HA.out i x hx
        obtain ⟨b2, o2, rfl, _, c2⟩ := HB.out i y hy
        have c1 : ∀ q, (w.drewN q).cell? ⟨b1, o1 + i, none⟩ = some (.int .u64 (x : Int)) := fun q => c1
        have c2 : ∀ q, (w.drewN q).cell? ⟨b2, o2 + i, none⟩ = some (.int .u64 (y : Int)) := fun q => c2
        have i1 : (0 : Int) ≤ (i : Int) := by omega
        have i2 : (i : Int) < (n : Int) := by omega
        rcases Nat.lt_trichotomy x y with hxy | hxy | hxy
        · have E := Lib.hid (cmpV_lt (lval_at i la lb x y NA.out (by rw [HLA.out, HLB.out]) (fun j hj => HQ.out j hj) hx hy hxy))
          have d1 : decide (x < y) = true := decide_eq_true hxy
          have d1' : decide ((x : Int) < (y : Int)) = true := decide_eq_true (by omega)
          clear hx hy
          go_wp2_with fail
          go_quiet (fail)
          go_wp2_with fail
          go_ret
          exact ⟨ret_int E.out.symm, by first | exact below_drewN belq _ | exact below_drewN (below_drewN belq _) _⟩
        · have HQ2 : Hid (∀ j, i ≤ j → la[j]? = lb[j]?) := Lib.hid (fun j hj => by
            rcases Nat.lt_or_ge i j with h | h
            · exact HQ.out j h
            · obtain rfl : j = i := by omega
              rw [hx, hy, hxy])
          subst hxy
          clear hx hy HQ
          go_wp2_with fail
          go_quiet (fail)
          go_wp2_with fail
          go_quiet (fail)
          go_wp2_with fail
          go_roundw
          case rel => exact ⟨i, _, by omega, by go_num, HQ2, by first | rfl | rw [World.drewN_drewN, World.drewN_drewN] | rw [World.drewN_drewN]⟩
          case measure => first | (simp [intOf]; done) | (simp [intOf]; omega)
        · have E := Lib.hid (cmpV_gt (lval_at i lb la y x NB.out (by rw [HLA.out, HLB.out]) (fun j hj => (HQ.out j hj).symm) hy hx hxy))
          have d1 : decide (x < y) = false := decide_eq_false (by omega)
          have d1' : decide ((x : Int) < (y : Int)) = false := decide_eq_false (by omega)
          have d2 : decide (y < x) = true := decide_eq_true hxy
          have d2' : decide ((y : Int) < (x : Int)) = true := decide_eq_true (by omega)
          clear hx hy
          go_wp2_with fail
          go_quiet (fail)
          go_wp2_with fail
          go_quiet (fail)
          go_wp2_with fail
          go_ret
          exact ⟨ret_int E.out.symm, by first | exact below_drewN belq _ | exact below_drewN (below_drewN belq _) _⟩
  · rw [cmpV_gt (lval_len_lt nb.1 na h)]
    obtain ⟨n, hn⟩ : ∃ n, la.length = n := ⟨_, rfl⟩
    obtain ⟨m, hm⟩ : ∃ n, lb.length = n := ⟨_, rfl⟩
    rw [hn] at h hla ⊢
    rw [hm] at h hlb ⊢
    clear hn hm na nb ha hb
    have d0 : ((n : Int) == (m : Int)) = false := by simp; omega
    have d00 : decide ((n : Int) = (m : Int)) = false := decide_eq_false (by omega)
    have d01 : decide (n = m) = false := decide_eq_false (by omega)
    have d1 : decide (n < m) = false := decide_eq_false (by omega)
    have d1' : decide ((n : Int) < (m : Int)) = false := decide_eq_false (by omega)
    go_enter Tryd.func86, Tryd.ntmps86
    go_wp2_with fail
    go_ret
    exact ⟨rfl, Below.refl _ _⟩

theorem rmag_any (n : Nat) (h : n ≤ 4611686018427387904) (w : World) : Calls Tryd.prog 103 #[.int .i64 n] w fun e w' => e = .returned (.int .u64 n) ∧ w = w' := by
  have d0 : decide ((n : Int) < 0) = false := decide_eq_false (by omega)
  have hw : IntKind.u64.wrap (n : Int) = n := by rw [IntKind.wrap_u64]; omega
  go_enter Tryd.func103, Tryd.ntmps103
  go_wp2_with fail
  go_ret
  exact ⟨rfl, rfl⟩
theorem rsign_any (a b : Nat) (ha : 1 ≤ a) (hb : 1 ≤ b) (w : World) : Calls Tryd.prog 85 #[.int .i64 a, .int .i64 b] w fun e w' => e = .returned (.int .i64 1) ∧ w = w' := by
  have d0 : ((a : Int) == 0) = false := by simp; omega
  have d1 : ((b : Int) == 0) = false := by simp; omega
  have d2 : decide ((a : Int) < 0) = false := decide_eq_false (by omega)
  have d3 : decide ((b : Int) < 0) = false := decide_eq_false (by omega)
  go_enter Tryd.func85, Tryd.ntmps85
  go_wp2_with fail
  go_ret
  exact ⟨rfl, rfl⟩
theorem rproduct_any (a b : Nat) (ha : a < 281474976710656) (hb : b < 281474976710656) (w : World) : Calls Tryd.prog 87 #[.int .i64 a, .int .i64 b] w fun e w' => ∃ c l a', e = .returned (.slice a' l.length c) ∧ U64At w' a' l ∧ lval l = a * b ∧ Norm l ∧ l.length ≤ 6 ∧ Below w.heap.size w w' := by
  have M1 := Lib.hid (fun W => rmag_any a (by omega) W)
  have M2 := Lib.hid (fun W => rmag_any b (by omega) W)
  have L1 := Lib.hid (fun W => limbs_any a ha W)
  have L2 := Lib.hid (fun W => limbs_any b hb W)
  clear ha hb
  go_enter Tryd.func87, Tryd.ntmps87
  go_wp2_with fail
  refine (M1.out _).mono ?_
  rintro e w' ⟨rfl, rfl⟩
  go_wp2_with fail
  refine (L1.out _).mono ?_
  rintro e w1 ⟨a1, c1, l1, rfl, u1, v1, g1, n1, b1⟩
  have U1 := Lib.hid u1
  have V1 := Lib.hid v1
  have G1 := Lib.hid g1
  have N1 := Lib.hid n1
  have sz1 := b1.size
  obtain ⟨m1, hm1⟩ : ∃ m, l1.length = m := ⟨_, rfl⟩
  have HM1 := Lib.hid hm1
  rw [hm1]
  clear u1 v1 g1 n1 hm1
  go_wp2_with fail
  refine (M2.out _).mono ?_
  rintro e w' ⟨rfl, rfl⟩
  go_wp2_with fail
  refine (L2.out _).mono ?_
  rintro e w2 ⟨a2, c2, l2, rfl, u2, v2, g2, n2, b2⟩
  have KM := mul_any a1 a2 c1 c2 l1 l2 w2 (U1.out.below b2) u2 G1.out g2 N1.out n2
  rw [HM1.out, V1.out, v2] at KM
  obtain ⟨m2, hm2⟩ : ∃ m, l2.length = m := ⟨_, rfl⟩
  rw [hm2] at KM ⊢
  have KM := Lib.hid KM
  clear u2 v2 g2 n2 hm2
  go_wp2_with fail
  refine KM.out.mono ?_
  rintro e w3 ⟨c, l, a', rfl, h1, h2, h3, h4, b3⟩
  have H1 := Lib.hid h1
  have H2 := Lib.hid h2
  have H3 := Lib.hid h3
  have H4 := Lib.hid h4
  obtain ⟨m3, hm3⟩ : ∃ m, l.length = m := ⟨_, rfl⟩
  have HM3 := Lib.hid hm3
  rw [hm3]
  clear h1 h2 h3 h4 hm3
  go_wp2_with fail
  go_ret
  exact ⟨c, l, a', by rw [HM3.out]; rfl, H1.out, H2.out, H3.out, H4.out, b1.trans ((b2.trans (b3.mono b2.size)).mono sz1)⟩
theorem rCmp_any (a b c d : Nat) (ha : 1 ≤ a ∧ a < 281474976710656) (hb : 1 ≤ b ∧ b < 281474976710656) (hc : 1 ≤ c ∧ c < 281474976710656) (hd : 1 ≤ d ∧ d < 281474976710656) (w : World) :
    Calls Tryd.prog 77 #[.int .i64 a, .int .i64 b, .int .i64 c, .int .i64 d] w fun e w' => e = .returned (.int .i64 (cmpV (a * b) (c * d))) ∧ Below w.heap.size w w' := by
  have S1 := Lib.hid (fun W => rsign_any a b ha.1 hb.1 W)
  have S2 := Lib.hid (fun W => rsign_any c d hc.1 hd.1 W)
  have P1 := Lib.hid (fun W => rproduct_any a b ha.2 hb.2 W)
  have P2 := Lib.hid (fun W => rproduct_any c d hc.2 hd.2 W)
  have hb0 := cmpV_bd (a * b) (c * d)
  obtain ⟨z, hz⟩ : ∃ z, cmpV (a * b) (c * d) = z := ⟨_, rfl⟩
  rw [hz] at hb0 ⊢
  have HZ := Lib.hid hz
  have hw : IntKind.i64.wrap z = z := by rw [IntKind.wrap_i64]; omega
  clear hz hb0 ha hb hc hd
  go_enter Tryd.func77, Tryd.ntmps77
  go_wp2_with fail
  refine (S1.out _).mono ?_
  rintro e w' ⟨rfl, rfl⟩
  go_wp2_with fail
  refine (S2.out _).mono ?_
  rintro e w' ⟨rfl, rfl⟩
  go_wp2_with fail
  refine (P1.out _).mono ?_
  rintro e w1 ⟨c1, l1, a1, rfl, u1, v1, n1, g1, b1⟩
  have U1 := Lib.hid u1
  have V1 := Lib.hid v1
  have N1 := Lib.hid n1
  have G1 := Lib.hid g1
  have sz1 := b1.size
  obtain ⟨m1, hm1⟩ : ∃ m, l1.length = m := ⟨_, rfl⟩
  have HM1 := Lib.hid hm1
  rw [hm1]
  clear u1 v1 n1 hm1 g1
  go_wp2_with fail
  refine (P2.out _).mono ?_
  rintro e w2 ⟨c2, l2, a2, rfl, u2, v2, n2, g2, b2⟩
  have KM := rcmp_any a1 a2 c1 c2 l1 l2 w2 (U1.out.below b2) u2 N1.out n2 G1.out g2
  rw [HM1.out, V1.out, v2, HZ.out] at KM
  obtain ⟨m2, hm2⟩ : ∃ m, l2.length = m := ⟨_, rfl⟩
  rw [hm2] at KM ⊢
  have KM := Lib.hid KM
  clear u2 v2 n2 hm2 g2
  go_wp2_with fail
  refine KM.out.mono ?_
  rintro e w3 ⟨rfl, b3⟩
  go_wp2_with fail
  go_ret
  exact ⟨rfl, b1.trans ((b2.trans (b3.mono b2.size)).mono sz1)⟩
end Go.Proofs.YtefdjdipbnnoaaaDoor
