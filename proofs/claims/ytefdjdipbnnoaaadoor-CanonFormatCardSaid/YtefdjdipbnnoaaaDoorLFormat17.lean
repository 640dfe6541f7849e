/-
  cnclaw17.CanonFormat: the walk.
-/
import Derived.Test.YtefdjdipbnnoaaaDoorAwake17
import Derived.Test.YtefdjdipbnnoaaaDoorStageF17
import Derived.Test.YtefdjdipbnnoaaaDoorLists17
import Derived.Test.YtefdjdipbnnoaaaDoorRFormat17
namespace Go.Proofs.YtefdjdipbnnoaaaDoor
open Go Go.RowKit
set_option linter.unusedVariables false
set_option linter.unusedSimpArgs false


attribute [local go_sem] itA_0 itA_1 itA_2 itA_3 itA_4 itA_5 itA_6 itA_7 itA_8 itA_9 itA_10 itA_11 itA_12 itA_13 itA_14 itA_15 itA_16 itA_17 itA_18 itA_19 itA_20 itA_21
set_option maxRecDepth 100000 in
set_option maxHeartbeats 4000000 in
theorem lformat_walk (a0 : Option Addr) (len0 cap0 : Nat) (a1 : Option Addr) (len1 cap1 : Nat) (z1 : List Int) (w : World) (hE : Env w) (k0 : Leaf w (.tab itKinds) (.slice a0 len0 cap0)) (w1 : IsRow .i64 w a1 len1 cap1 z1) (hn : len1 ≤ 9223372036854775807) :
    Calls Tryd.prog 5 #[.slice a0 len0 cap0, .slice a1 len1 cap1] w fun e w' => e = .returned (.bool true) ∧ Below w.heap.size w w' := by
  have HN0 := Lib.hid (its_nil k0)
  obtain ⟨R, hRl, hR, hmax⟩ := its_tab k0
  clear k0
  have HR := Lib.hid hR
  have HRL := Lib.hid hRl
  have HE0 := Lib.hid hE
  have hlow := hE.low
  have KL := Lib.hid (light_any w a1 len1 cap1)
  have KN := Lib.hid (tape_new w a1 len1 cap1 z1 w1 hn)
  obtain ⟨z, hz⟩ : ∃ z, (fun i => z1.getD i 0) = z := ⟨_, rfl⟩
  rw [hz] at KN
  clear hE w1 hn hz hR hRl
  go_enter Tryd.func5, Tryd.ntmps5
  by_cases h40 : 40 < len0
  · have d1 : decide (40 < len0) = true := decide_eq_true h40
    have d1' : decide (40 < (len0 : Int)) = true := decide_eq_true (by omega)
    go_wp2_with fail
    refine (awake_true _ HE0.out).mono ?_
    rintro e w1 ⟨rfl, b1⟩
    go_wp2_with fail
    go_ret
    exact ⟨rfl, b1⟩
  have d1 : decide (40 < len0) = false := decide_eq_false h40
  have d1' : decide (40 < (len0 : Int)) = false := decide_eq_false (by omega)
  go_wp2_with fail
  refine KL.out.mono ?_
  rintro e w' ⟨rfl, rfl⟩
  by_cases h120 : len1 ≤ 120
  rotate_left
  · have d2 : decide (len1 ≤ 120) = false := decide_eq_false h120
    go_wp2_with fail
    refine (awake_true _ HE0.out).mono ?_
    rintro e w1 ⟨rfl, b1⟩
    go_wp2_with fail
    go_ret
    exact ⟨rfl, b1⟩
  have d2 : decide (len1 ≤ 120) = true := decide_eq_true h120
  go_wp2_with fail
  refine KN.out.mono ?_
  rintro e w1 ⟨rfl, hs1, b1⟩
  have sz1 := b1.size
  have B1 := Lib.hid b1
  have S1 := Lib.hid hs1
  have l1 := hs1.lt
  clear hs1 b1 KN KL
  go_wp2_with fail
  refine (sitems_any w1 w.heap.size w.heap.size a1 len1 cap1 z ⟨0, S1.out⟩).mono ?_
  rintro e w2 ⟨v2, L, p, rfl, hgood, hL8, hown, G2⟩
  obtain ⟨a5, c5, rfl, hat, hno⟩ := its_own hown
  have B2 : Below w.heap.size w w2 := B1.out.trans (below_of_grown G2.gr (by omega) (fun k e => by injection e; omega))
  have sz2 := B2.size
  have B2 := Lib.hid B2
  have HAT := Lib.hid hat
  have HNO := Lib.hid hno
  have HGOOD := Lib.hid hgood
  clear hat hno hgood hown G2 S1 B1 l1 sz1 d1 d1' d2
  have hrl : R.length ≤ 40 := by have := HRL.out; omega
  go_upto_region 5 with (first
    | ((with_reducible refine go_itcopy (.tmp 19) (.tmp 20) w2.heap.size a5 c5 L (by with_unfolding_all rfl) (by with_unfolding_all exact Blk.new w2 _ _) (by with_unfolding_all rfl) HNO.out (HAT.out.below ((Below.refl _ _).alloc (Nat.le_refl _) _)) (by omega) ?_); intro v5 w5 hown5 hgrow; have b5 := Lib.hid (((Below.refl w2.heap.size w2).alloc (Nat.le_refl _) (.cells #[] 25)).trans (below_of_grown hgrow (by simp) (by intro k hk; injection hk; omega))); have HO5 := Lib.hid hown5; have sz5 := b5.out.size; clear hown5 hgrow)
    | ((with_reducible refine go_itsapp (.tmp 21) (.tmp 22) L a0 cap0 R (by with_unfolding_all rfl) HO5.out (by rw [HRL.out]; with_unfolding_all rfl) (by rw [HRL.out]; exact HN0.out) ((HR.out.below B2.out).below (b5.out.mono (Nat.le_refl _))) (by omega) sz5 ?_); intro v6 w6 hown6 hgrow; have b6 := Lib.hid (b5.out.trans (below_of_grown hgrow (by omega) (fun k e => (HO5.out.lt k e).1))); obtain ⟨a8, c8, rfl, hat8, _⟩ := its_own hown6; have HAT8 := Lib.hid hat8; clear hown6 hgrow hat8))
  have hlm : (L ++ R).length ≤ 4000 := by rw [List.length_append]; omega
  have B6 := Lib.hid (B2.out.trans (b6.out.mono sz2))
  have sz6 := B6.out.size
  have HR6 := Lib.hid (HR.out.below B6.out)
  have HL6 := Lib.hid (HAT.out.below b6.out)
  clear b5 HO5 HAT
  go_wp2_with fail
  refine (awake_true _ (HE0.out.below B6.out hlow)).mono ?_
  rintro e w7 ⟨rfl, b7⟩
  have HR7 := Lib.hid (HR6.out.below b7)
  have HL7 := Lib.hid (HL6.out.below b7)
  have HA7 := Lib.hid (HAT8.out.below b7)
  have B7 := Lib.hid (B6.out.trans (b7.mono sz6))
  have sz7 := B7.out.size
  clear b7 HR6 HL6 HAT8 B6 b6
  have K1 := format_any a0 cap0 R w7 HR7.out (by omega) (HE0.out.below B7.out hlow)
  have K2 := fun W (b : Below w7.heap.size w7 W) => rformat_any a0 cap0 R W (HR7.out.below b) (by omega)
  rw [HRL.out] at K1
  simp only [HRL.out] at K2
  obtain ⟨F, hF⟩ : ∃ F, mkB (formatI R) = F := ⟨_, rfl⟩
  rw [hF] at K1 K2
  have K1 := Lib.hid K1
  have K2 := Lib.hid K2
  clear hF
  go_wp2_with fail
  with_reducible refine K1.out.mono ?_
  rintro e w11 ⟨rfl, b11⟩
  have B11 := Lib.hid b11
  clear b11
  go_wp2_with fail
  with_reducible refine (K2.out _ B11.out).mono ?_
  rintro e w12 ⟨rfl, b12⟩
  have B12 := Lib.hid (B11.out.trans (b12.mono B11.out.size))
  clear b12 B11 K1 K2
  have HL12 := Lib.hid (HL7.out.below B12.out)
  have HA12 := Lib.hid (HA7.out.below B12.out)
  have B13 := Lib.hid (B7.out.trans (B12.out.mono sz7))
  clear B12 HL7 HA7 HR7 B7
  have sz12 := B13.out.size
  have K3 := format_any a5 c5 L w12 HL12.out (by omega) (HE0.out.below B13.out hlow)
  have K4 := fun W (b : Below w12.heap.size w12 W) => rformat_any a5 c5 L W (HL12.out.below b) (by omega)
  generalize w12 = w13 at HL12 HA12 B13 sz12 K3 K4 ⊢
  obtain ⟨F, hF⟩ : ∃ F, mkB (formatI L) = F := ⟨_, rfl⟩
  rw [hF] at K3 K4
  have K3 := Lib.hid K3
  have K4 := Lib.hid K4
  clear hF
  go_wp2_with fail
  with_reducible refine K3.out.mono ?_
  rintro e w11 ⟨rfl, b11⟩
  have B11 := Lib.hid b11
  clear b11
  go_wp2_with fail
  with_reducible refine (K4.out _ B11.out).mono ?_
  rintro e w12 ⟨rfl, b12⟩
  have B12 := Lib.hid (B11.out.trans (b12.mono B11.out.size))
  clear b12 B11 K3 K4
  have HA14 := Lib.hid (HA12.out.below B12.out)
  have B14 := Lib.hid (B13.out.trans (B12.out.mono sz12))
  clear B12 HL12 HA12 B13
  have sz14 := B14.out.size
  have K5 := format_any a8 c8 (L ++ R) w12 HA14.out hlm (HE0.out.below B14.out hlow)
  have K6 := fun W (b : Below w12.heap.size w12 W) => rformat_any a8 c8 (L ++ R) W (HA14.out.below b) hlm
  rw [List.length_append] at K5
  simp only [List.length_append] at K6
  generalize w12 = w14 at HA14 B14 sz14 K5 K6 ⊢
  obtain ⟨F, hF⟩ : ∃ F, mkB (formatI (L ++ R)) = F := ⟨_, rfl⟩
  rw [hF] at K5 K6
  have K5 := Lib.hid K5
  have K6 := Lib.hid K6
  clear hF
  go_wp2_with fail
  with_reducible refine K5.out.mono ?_
  rintro e w11 ⟨rfl, b11⟩
  have B11 := Lib.hid b11
  clear b11
  go_wp2_with fail
  with_reducible refine (K6.out _ B11.out).mono ?_
  rintro e w12 ⟨rfl, b12⟩
  have B12 := Lib.hid (B11.out.trans (b12.mono B11.out.size))
  clear b12 B11 K5 K6
  have BEL := Lib.hid (B14.out.trans (B12.out.mono sz14))
  go_wp2_with fail
  go_ret
  exact ⟨rfl, BEL.out⟩
end Go.Proofs.YtefdjdipbnnoaaaDoor
