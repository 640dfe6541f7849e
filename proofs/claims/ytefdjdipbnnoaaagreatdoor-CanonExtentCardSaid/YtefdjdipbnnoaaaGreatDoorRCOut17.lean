/-
  cncref17.Extent, less, Outside, End: any items, over what cncref13.Extent returns.
-/
import Derived.Test.YtefdjdipbnnoaaaGreatDoorCOut17
import Derived.Test.YtefdjdipbnnoaaaGreatDoorCheck17
import Derived.Test.YtefdjdipbnnoaaaGreatDoorEnd17
namespace Go.Proofs.YtefdjdipbnnoaaaGreatDoor
open Go Go.RowKit
set_option linter.unusedVariables false
set_option linter.unusedSimpArgs false

attribute [local go_sem] itA_0 itA_1 itA_2 itA_3 itA_4 itA_5 itA_6 itA_7 itA_8 itA_9 itA_10 itA_11 itA_12 itA_13 itA_14 itA_15 itA_16 itA_17 itA_18 itA_19 itA_20 itA_21
/-- What cncref13.Extent does at valid motions. -/
def RExtOK : Prop := ∀ (i : It) (W : World), validI i = true → motK i.kind = true → Calls Tryz.prog 32 #[.agg (itA i)] W fun e w' => e = .returned (.tuple #[.agg (v3A (extI i).1), .agg (v3A (extI i).2)]) ∧ Below W.heap.size W w'
set_option maxRecDepth 100000 in
set_option maxHeartbeats 4000000 in
theorem rcext_any (hx : RExtOK) (i : It) (w : World) : Calls Tryz.prog 11 #[.agg (itA i)] w fun e w' => e = .returned (.tuple #[.agg (v3A (extC i).1), .agg (v3A (extC i).2)]) ∧ Below w.heap.size w w' := by
  obtain ⟨RL, RH, hR⟩ : ∃ a b, extC i = (a, b) := ⟨_, _, rfl⟩
  rw [hR]
  have HR := Lib.hid hR
  have HXX := Lib.hid hx
  clear hR hx
  go_enter Tryz.func11, Tryz.ntmps11
  go_upto_region 1 with fail
  refine wp_told (fun W => ItAt W w.heap.size i ∧ Blk W (w.heap.size + 1) 23 #[.int .i64 0, .int .i64 0, .int .i64 0] ∧ Blk W (w.heap.size + 1 + 1) 23 #[.int .i64 0, .int .i64 0, .int .i64 0] ∧ Below w.heap.size w W)
    ⟨((ItAt.new w i).alloc _).alloc _, (blk_new1 w _ _ _).alloc _, blk_new2 w _ _ _ _, (by (repeat (first | exact Below.refl _ _ | refine Below.drew ?_ | refine Below.alloc ?_ (by first | exact Nat.le_refl _ | (simp; done) | (simp; omega)) _)))⟩ ?_
  rintro W1 ⟨h1, h2, h3, bel1⟩
  have HI := Lib.hid h1
  have HZ1 := Lib.hid h2
  have HZ2 := Lib.hid h3
  have BX := Lib.hid bel1
  clear h1 h2 h3 bel1
  obtain ⟨vl, hvl⟩ : ∃ b, validI i = b := ⟨_, rfl⟩
  have KV := rvalid_v i W1
  rw [hvl] at KV
  have HVL := Lib.hid hvl
  have KV := Lib.hid KV
  clear hvl
  go_wp2_with ((with_reducible refine go_loadI (.tmp 1) w.heap.size i (by with_unfolding_all rfl) HI.out ?_))
  refine KV.out.mono ?_
  rintro e W2 ⟨rfl, b2⟩
  have hi2 := HI.out.below b2
  have hz1 := HZ1.out.below b2 HZ1.out.lt
  have hz2 := HZ2.out.below b2 HZ2.out.lt
  have bx2 := BX.out.trans (b2.mono BX.out.size)
  clear HI HZ1 HZ2 BX b2 KV
  have c0 := hi2.c0
  have HI := Lib.hid hi2
  have HZ1 := Lib.hid hz1
  have HZ2 := Lib.hid hz2
  have BX := Lib.hid bx2
  clear hi2 hz1 hz2 bx2
  cases vl
  · have ER : RL = (0, 0, 0) ∧ RH = (0, 0, 0) := by
      have := HR.out
      unfold extC at this
      rw [if_neg (by rw [HVL.out]; simp)] at this
      injection this with e1 e2
      exact ⟨e1.symm, e2.symm⟩
    obtain ⟨rfl, rfl⟩ := ER
    have y0 := HZ1.out.frozen 0
    have y1 := HZ1.out.frozen 1
    have y2 := HZ1.out.frozen 2
    have x0 := HZ2.out.frozen 0
    have x1 := HZ2.out.frozen 1
    have x2 := HZ2.out.frozen 2
    have v0 : W2.cell? ⟨w.heap.size + 1, 0, none⟩ = some (.int .i64 0) := HZ1.out.cell' 0 rfl
    have v1 : W2.cell? ⟨w.heap.size + 1, 1, none⟩ = some (.int .i64 0) := HZ1.out.cell' 1 rfl
    have v2 : W2.cell? ⟨w.heap.size + 1, 2, none⟩ = some (.int .i64 0) := HZ1.out.cell' 2 rfl
    have u0 : W2.cell? ⟨w.heap.size + 1 + 1, 0, none⟩ = some (.int .i64 0) := HZ2.out.cell' 0 rfl
    have u1 : W2.cell? ⟨w.heap.size + 1 + 1, 1, none⟩ = some (.int .i64 0) := HZ2.out.cell' 1 rfl
    have u2 : W2.cell? ⟨w.heap.size + 1 + 1, 2, none⟩ = some (.int .i64 0) := HZ2.out.cell' 2 rfl
    go_wp2_with fail
    refine bodyPost_ret (results_cc rfl rfl (show Blk _ (w.heap.size + 1) 23 (v3A ((0, 0, 0) : V3)) from Blk.skip (Blk.skip (Blk.skip (((HZ1.out.put 0 _).put 1 _).put 2 _) (by simp) _) (by simp) _) (by simp) _) Tryz.underlying23 rfl (by kernel_rfl) rfl (show Blk _ (w.heap.size + 1 + 1) 23 (v3A ((0, 0, 0) : V3)) from (((Blk.skip (Blk.skip (Blk.skip HZ2.out (by simp) _) (by simp) _) (by simp) _).put 0 _).put 1 _).put 2 _) Tryz.underlying23 rfl (by kernel_rfl)) rfl ?_
    exact ⟨rfl, (((((BX.out.setCell (by show w.heap.size ≤ w.heap.size + 1; omega) _).setCell (by show w.heap.size ≤ w.heap.size + 1; omega) _).setCell (by show w.heap.size ≤ w.heap.size + 1; omega) _).setCell (by show w.heap.size ≤ w.heap.size + 1 + 1; omega) _).setCell (by show w.heap.size ≤ w.heap.size + 1 + 1; omega) _).setCell (by show w.heap.size ≤ w.heap.size + 1 + 1; omega) _⟩
  obtain ⟨mt, hmt⟩ : ∃ b, motK i.kind = b := ⟨_, rfl⟩
  have KM := rmotionK_any i.kind W2
  rw [hmt] at KM
  have HMT := Lib.hid hmt
  have KM := Lib.hid KM
  clear hmt
  go_wp2_with fail
  refine KM.out.mono ?_
  rintro e w' ⟨rfl, rfl⟩
  clear c0 KM
  cases mt
  · have ER : RL = (0, 0, 0) ∧ RH = (0, 0, 0) := by
      have := HR.out
      unfold extC at this
      rw [if_neg (by rw [HMT.out]; simp)] at this
      injection this with e1 e2
      exact ⟨e1.symm, e2.symm⟩
    obtain ⟨rfl, rfl⟩ := ER
    have y0 := HZ1.out.frozen 0
    have y1 := HZ1.out.frozen 1
    have y2 := HZ1.out.frozen 2
    have x0 := HZ2.out.frozen 0
    have x1 := HZ2.out.frozen 1
    have x2 := HZ2.out.frozen 2
    have v0 : W2.cell? ⟨w.heap.size + 1, 0, none⟩ = some (.int .i64 0) := HZ1.out.cell' 0 rfl
    have v1 : W2.cell? ⟨w.heap.size + 1, 1, none⟩ = some (.int .i64 0) := HZ1.out.cell' 1 rfl
    have v2 : W2.cell? ⟨w.heap.size + 1, 2, none⟩ = some (.int .i64 0) := HZ1.out.cell' 2 rfl
    have u0 : W2.cell? ⟨w.heap.size + 1 + 1, 0, none⟩ = some (.int .i64 0) := HZ2.out.cell' 0 rfl
    have u1 : W2.cell? ⟨w.heap.size + 1 + 1, 1, none⟩ = some (.int .i64 0) := HZ2.out.cell' 1 rfl
    have u2 : W2.cell? ⟨w.heap.size + 1 + 1, 2, none⟩ = some (.int .i64 0) := HZ2.out.cell' 2 rfl
    go_wp2_with fail
    refine bodyPost_ret (results_cc rfl rfl (show Blk _ (w.heap.size + 1) 23 (v3A ((0, 0, 0) : V3)) from Blk.skip (Blk.skip (Blk.skip (((HZ1.out.put 0 _).put 1 _).put 2 _) (by simp) _) (by simp) _) (by simp) _) Tryz.underlying23 rfl (by kernel_rfl) rfl (show Blk _ (w.heap.size + 1 + 1) 23 (v3A ((0, 0, 0) : V3)) from (((Blk.skip (Blk.skip (Blk.skip HZ2.out (by simp) _) (by simp) _) (by simp) _).put 0 _).put 1 _).put 2 _) Tryz.underlying23 rfl (by kernel_rfl)) rfl ?_
    exact ⟨rfl, (((((BX.out.setCell (by show w.heap.size ≤ w.heap.size + 1; omega) _).setCell (by show w.heap.size ≤ w.heap.size + 1; omega) _).setCell (by show w.heap.size ≤ w.heap.size + 1; omega) _).setCell (by show w.heap.size ≤ w.heap.size + 1 + 1; omega) _).setCell (by show w.heap.size ≤ w.heap.size + 1 + 1; omega) _).setCell (by show w.heap.size ≤ w.heap.size + 1 + 1; omega) _⟩
  · have ER : extI i = (RL, RH) := by
      have := HR.out
      unfold extC at this
      rwa [if_pos ⟨HMT.out, HVL.out⟩] at this
    have KE := HXX.out i W2 HVL.out HMT.out
    rw [ER] at KE
    have KE := Lib.hid KE
    clear ER HR
    go_wp2_with ((with_reducible refine go_loadI (.tmp 1) w.heap.size i (by with_unfolding_all rfl) HI.out ?_))
    refine KE.out.mono ?_
    rintro e W3 ⟨rfl, b3⟩
    have hz1 := HZ1.out.below b3 HZ1.out.lt
    have hz2 := HZ2.out.below b3 HZ2.out.lt
    have bx2 := BX.out.trans (b3.mono BX.out.size)
    clear HI HZ1 HZ2 BX b3 KE
    have HZ1 := Lib.hid hz1
    have HZ2 := Lib.hid hz2
    have BX := Lib.hid bx2
    clear hz1 hz2 bx2
    have y0 := HZ1.out.frozen 0
    have y1 := HZ1.out.frozen 1
    have y2 := HZ1.out.frozen 2
    have x0 := HZ2.out.frozen 0
    have x1 := HZ2.out.frozen 1
    have x2 := HZ2.out.frozen 2
    have v0 : W3.cell? ⟨w.heap.size + 1, 0, none⟩ = some (.int .i64 0) := HZ1.out.cell' 0 rfl
    have v1 : W3.cell? ⟨w.heap.size + 1, 1, none⟩ = some (.int .i64 0) := HZ1.out.cell' 1 rfl
    have v2 : W3.cell? ⟨w.heap.size + 1, 2, none⟩ = some (.int .i64 0) := HZ1.out.cell' 2 rfl
    have u0 : W3.cell? ⟨w.heap.size + 1 + 1, 0, none⟩ = some (.int .i64 0) := HZ2.out.cell' 0 rfl
    have u1 : W3.cell? ⟨w.heap.size + 1 + 1, 1, none⟩ = some (.int .i64 0) := HZ2.out.cell' 1 rfl
    have u2 : W3.cell? ⟨w.heap.size + 1 + 1, 2, none⟩ = some (.int .i64 0) := HZ2.out.cell' 2 rfl
    obtain ⟨l0, l1, l2⟩ := RL
    obtain ⟨g0, g1, g2⟩ := RH
    unfold v3A
    go_wp2_with fail
    refine bodyPost_ret (results_cc rfl rfl (show Blk _ (w.heap.size + 1) 23 (v3A ((l0, l1, l2) : V3)) from Blk.skip (Blk.skip (Blk.skip (((HZ1.out.put 0 _).put 1 _).put 2 _) (by simp) _) (by simp) _) (by simp) _) Tryz.underlying23 rfl (by kernel_rfl) rfl (show Blk _ (w.heap.size + 1 + 1) 23 (v3A ((g0, g1, g2) : V3)) from (((Blk.skip (Blk.skip (Blk.skip HZ2.out (by simp) _) (by simp) _) (by simp) _).put 0 _).put 1 _).put 2 _) Tryz.underlying23 rfl (by kernel_rfl)) rfl ?_
    exact ⟨rfl, (((((BX.out.setCell (by show w.heap.size ≤ w.heap.size + 1; omega) _).setCell (by show w.heap.size ≤ w.heap.size + 1; omega) _).setCell (by show w.heap.size ≤ w.heap.size + 1; omega) _).setCell (by show w.heap.size ≤ w.heap.size + 1 + 1; omega) _).setCell (by show w.heap.size ≤ w.heap.size + 1 + 1; omega) _).setCell (by show w.heap.size ≤ w.heap.size + 1 + 1; omega) _⟩
def lessB (a b : V3) : Bool := decide (a.1 < b.1) || (decide (a.2.1 < b.2.1) || decide (a.2.2 < b.2.2))
set_option maxRecDepth 100000 in
theorem rless_any (a b : V3) (w : World) : Calls Tryz.prog 33 #[.agg #[.int .i64 a.1, .int .i64 a.2.1, .int .i64 a.2.2], .agg #[.int .i64 b.1, .int .i64 b.2.1, .int .i64 b.2.2]] w fun e w' => e = .returned (.bool (lessB a b)) ∧ Below w.heap.size w w' := by
  unfold lessB
  cases g1 : decide (a.1 < b.1)
  rotate_left
  · go_enter Tryz.func33, Tryz.ntmps33
    go_wp2_with fail
    go_ret
    exact ⟨rfl, (by (repeat (first | exact Below.refl _ _ | refine Below.drew ?_ | refine Below.alloc ?_ (by first | exact Nat.le_refl _ | (simp; done) | (simp; omega)) _)))⟩
  cases g2 : decide (a.2.1 < b.2.1)
  rotate_left
  · go_enter Tryz.func33, Tryz.ntmps33
    go_wp2_with fail
    go_ret
    exact ⟨rfl, (by (repeat (first | exact Below.refl _ _ | refine Below.drew ?_ | refine Below.alloc ?_ (by first | exact Nat.le_refl _ | (simp; done) | (simp; omega)) _)))⟩
  cases g3 : decide (a.2.2 < b.2.2)
  all_goals
    go_enter Tryz.func33, Tryz.ntmps33
    go_wp2_with fail
    go_ret
    exact ⟨rfl, (by (repeat (first | exact Below.refl _ _ | refine Below.drew ?_ | refine Below.alloc ?_ (by first | exact Nat.le_refl _ | (simp; done) | (simp; omega)) _)))⟩
theorem cmpO_less (e : V3 × V3) (lo hi : V3) : cmpO e lo hi = (lessB e.1 lo || lessB hi e.2) := by
  unfold cmpO lessB
  simp only [Bool.or_assoc]
set_option maxRecDepth 100000 in
set_option maxHeartbeats 4000000 in
theorem rout_any (hx : RExtOK) (a : Option Addr) (c : Nat) (l : List It) (lo hi : V3) (w : World) (h : ItsAt w a l) (hn : l.length ≤ 9223372036854775807) :
    Calls Tryz.prog 14 #[.slice a l.length c, .agg #[.int .i64 lo.1, .int .i64 lo.2.1, .int .i64 lo.2.2], .agg #[.int .i64 hi.1, .int .i64 hi.2.1, .int .i64 hi.2.2]] w fun e w' => e = .returned (.int .i64 (outL lo hi l 0)) ∧ Below w.heap.size w w' := by
  obtain ⟨n, hln⟩ : ∃ n, l.length = n := ⟨_, rfl⟩
  have HLN := Lib.hid hln
  have H := Lib.hid h
  have HXX := Lib.hid hx
  have HG := Lib.hid (fun k (hk : k < n) => (⟨l[k]'(by omega), List.getElem?_eq_getElem _⟩ : ∃ x, l[k]? = some x))
  obtain ⟨res, hres⟩ : ∃ q, outL lo hi l 0 = q := ⟨_, rfl⟩
  have HRES := Lib.hid hres
  rw [hln] at hn ⊢
  rw [hres]
  clear h hln hres hx
  go_enter Tryz.func14, Tryz.ntmps14
  go_wp2_with fail
  go_loopw [7] (fun s7 wr => ∃ k : Nat, k ≤ n ∧ s7 = .int .i64 k ∧ outL lo hi (l.drop k) k = res ∧ OS w lo hi wr)
    (fun s7 _ => n - (intOf s7).toNat)
  case atStart => exact ⟨0, by omega, rfl, HRES.out, (Blk.new w _ _).alloc _, blk_new1 w _ _ _, (by (repeat (first | exact Below.refl _ _ | refine Below.drew ?_ | refine Below.alloc ?_ (by first | exact Nat.le_refl _ | (simp; done) | (simp; omega)) _)))⟩
  case round =>
    obtain ⟨k, hk, rfl, hv, hos⟩ := hrel
    have szo := hos.hi.lt
    by_cases hlt : k < n
    · obtain ⟨x, hx⟩ := HG.out k hlt
      have d0 : decide (k < n) = true := decide_eq_true hlt
      have hst := outL_drop (lo := lo) (hi := hi) hx
      rw [hv] at hst
      have HST := Lib.hid hst
      have HO := Lib.hid hos
      have HX := Lib.hid hx
      obtain ⟨b, o, rfl, _, hc⟩ := H.out.below hos.bel k x hx
      have HCX := Lib.hid hc
      have i1 : (0 : Int) ≤ (k : Int) := by omega
      have i2 : (k : Int) < (n : Int) := by omega
      obtain ⟨vl, hvl⟩ : ∃ b, validI x = b := ⟨_, rfl⟩
      have KV := rvalid_v x wr
      rw [hvl] at KV
      have HVL := Lib.hid hvl
      have KV := Lib.hid KV
      clear hst hv hos hc hx hvl
      go_wp2_with ((with_reducible refine go_loadM (.tmp 18) b (o + k * 22) x (by with_unfolding_all rfl) HCX.out ?_))
      refine KV.out.mono ?_
      rintro e W6 ⟨rfl, b6⟩
      have O6 := Lib.hid (HO.out.below b6)
      clear b6 KV HO
      cases vl
      · have HIN := Lib.hid (show outI lo hi x = false by unfold outI; rw [HVL.out]; simp)
        go_wp2_with fail
        go_roundw
        case rel => exact ⟨k + 1, by omega, by go_num, by have := HST.out; rw [if_neg (by rw [HIN.out]; simp)] at this; exact this.symm, O6.out⟩
        case measure => simp [intOf] <;> omega
      obtain ⟨b', o', e1, _, hc6⟩ := H.out.below O6.out.bel k x HX.out
      injection e1 with e1
      injection e1 with e2 e3
      subst e2 e3
      have c0 := hc6 0 _ rfl
      simp only [Nat.add_zero] at c0
      have HC6 := Lib.hid hc6
      obtain ⟨mt, hmt⟩ : ∃ b, motK x.kind = b := ⟨_, rfl⟩
      have KM := rmotionK_any x.kind W6
      rw [hmt] at KM
      have HMT := Lib.hid hmt
      have KM := Lib.hid KM
      clear hmt hc6
      go_wp2_with fail
      refine KM.out.mono ?_
      rintro e w' ⟨rfl, rfl⟩
      clear KM c0
      cases mt
      · have HIN := Lib.hid (show outI lo hi x = false by unfold outI; rw [HMT.out]; rfl)
        go_wp2_with fail
        go_roundw
        case rel => exact ⟨k + 1, by omega, by go_num, by have := HST.out; rw [if_neg (by rw [HIN.out]; simp)] at this; exact this.symm, O6.out⟩
        case measure => simp [intOf] <;> omega
      obtain ⟨e1, e2, hex⟩ : ∃ e1 e2, extC x = (e1, e2) := ⟨_, _, rfl⟩
      have KE := rcext_any HXX.out x W6
      rw [hex] at KE
      have HEX := Lib.hid hex
      have KE : Calls Tryz.prog 11 #[.agg (itA x)] W6 fun e w' => e = .returned (.tuple #[.agg #[.int .i64 e1.1, .int .i64 e1.2.1, .int .i64 e1.2.2], .agg #[.int .i64 e2.1, .int .i64 e2.2.1, .int .i64 e2.2.2]]) ∧ Below W6.heap.size W6 w' := KE
      have KE := Lib.hid KE
      clear hex
      go_wp2_with ((with_reducible refine go_loadM (.tmp 34) b (o + k * 22) x (by with_unfolding_all rfl) HC6.out ?_))
      refine KE.out.mono ?_
      rintro e W7 ⟨rfl, b7⟩
      have O7 := Lib.hid (O6.out.below b7)
      clear b7 KE O6 HC6
      go_upto_region 6 with fail
      refine wp_told (fun W => OS w lo hi W ∧ Blk W W7.heap.size 23 #[.int .i64 e1.1, .int .i64 e1.2.1, .int .i64 e1.2.2] ∧ Blk W (W7.heap.size + 1) 23 #[.int .i64 e2.1, .int .i64 e2.2.1, .int .i64 e2.2.2])
        ⟨(O7.out.alloc _).alloc _, (Blk.new W7 _ _).alloc _, blk_new1 W7 _ _ _⟩ ?_
      clear O7
      rintro W8 ⟨ho, he1, he2⟩
      obtain ⟨N, hNe⟩ : ∃ N, W7.heap.size = N := ⟨_, rfl⟩
      rw [hNe] at he1 he2 ⊢
      have l0 : W8.cell? ⟨w.heap.size, 0, none⟩ = some (.int .i64 lo.1) := ho.lo.cell' 0 rfl
      have l1 : W8.cell? ⟨w.heap.size, 1, none⟩ = some (.int .i64 lo.2.1) := ho.lo.cell' 1 rfl
      have l2 : W8.cell? ⟨w.heap.size, 2, none⟩ = some (.int .i64 lo.2.2) := ho.lo.cell' 2 rfl
      have a0 : W8.cell? ⟨N, 0, none⟩ = some (.int .i64 e1.1) := he1.cell' 0 rfl
      have a1 : W8.cell? ⟨N, 1, none⟩ = some (.int .i64 e1.2.1) := he1.cell' 1 rfl
      have a2 : W8.cell? ⟨N, 2, none⟩ = some (.int .i64 e1.2.2) := he1.cell' 2 rfl
      have HO := Lib.hid ho
      have HE2 := Lib.hid he2
      have K1 := rless_any e1 lo W8
      have K2 := fun W => rless_any hi e2 W
      obtain ⟨g1, hg1⟩ : ∃ b, lessB e1 lo = b := ⟨_, rfl⟩
      obtain ⟨g2, hg2⟩ : ∃ b, lessB hi e2 = b := ⟨_, rfl⟩
      rw [hg1] at K1
      simp only [hg2] at K2
      have HOI := Lib.hid (show outI lo hi x = (g1 || g2) by unfold outI; rw [HMT.out, HVL.out, HEX.out, cmpO_less, hg1, hg2]; rfl)
      have K1 := Lib.hid K1
      have K2 := Lib.hid K2
      clear hNe ho he1 he2 hg1 hg2
      go_wp2_with fail
      refine K1.out.mono ?_
      rintro e W9 ⟨rfl, b9⟩
      have ho9 := HO.out.below b9
      have he9 := HE2.out.below b9 HE2.out.lt
      clear l0 l1 l2 a0 a1 a2 b9 K1 HO HE2
      have HO := Lib.hid ho9
      cases g1
      rotate_left
      · have ER : res = (k : Int) := by rw [HST.out, if_pos (by rw [HOI.out]; rfl)]
        clear ho9 he9
        go_wp2_with fail
        go_ret
        exact ⟨by rw [ER]; rfl, HO.out.bel⟩
      have h0 : W9.cell? ⟨w.heap.size + 1, 0, none⟩ = some (.int .i64 hi.1) := ho9.hi.cell' 0 rfl
      have h1 : W9.cell? ⟨w.heap.size + 1, 1, none⟩ = some (.int .i64 hi.2.1) := ho9.hi.cell' 1 rfl
      have h2 : W9.cell? ⟨w.heap.size + 1, 2, none⟩ = some (.int .i64 hi.2.2) := ho9.hi.cell' 2 rfl
      have b0 : W9.cell? ⟨N + 1, 0, none⟩ = some (.int .i64 e2.1) := he9.cell' 0 rfl
      have b1 : W9.cell? ⟨N + 1, 1, none⟩ = some (.int .i64 e2.2.1) := he9.cell' 1 rfl
      have b2 : W9.cell? ⟨N + 1, 2, none⟩ = some (.int .i64 e2.2.2) := he9.cell' 2 rfl
      clear ho9 he9
      go_wp2_with fail
      refine (K2.out _).mono ?_
      rintro e W10 ⟨rfl, b10⟩
      have O10 := Lib.hid (HO.out.below b10)
      clear h0 h1 h2 b0 b1 b2 b10 HO K2
      cases g2
      · have HIN := Lib.hid (show outI lo hi x = false by rw [HOI.out]; rfl)
        go_wp2_with fail
        go_roundw
        case rel => exact ⟨k + 1, by omega, by go_num, by have := HST.out; rw [if_neg (by rw [HIN.out]; simp)] at this; exact this.symm, O10.out⟩
        case measure => simp [intOf] <;> omega
      · have ER : res = (k : Int) := by rw [HST.out, if_pos (by rw [HOI.out]; rfl)]
        go_wp2_with fail
        go_ret
        exact ⟨by rw [ER]; rfl, O10.out.bel⟩
    · obtain rfl : k = n := by omega
      have d0 : decide (k < k) = false := by simp
      have ER : res = -1 := by rw [← hv, List.drop_eq_nil_of_le (by have := HLN.out; omega)]; rfl
      have HO := Lib.hid hos
      clear hv hos
      go_wp2_with fail
      go_ret
      exact ⟨by rw [ER]; rfl, HO.out.bel⟩
end Go.Proofs.YtefdjdipbnnoaaaGreatDoor
