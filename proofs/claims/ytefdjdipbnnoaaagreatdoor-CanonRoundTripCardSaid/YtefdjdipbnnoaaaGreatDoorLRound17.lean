/-
  CanonRoundTrip returns true. Its arguments: any.
-/
import Derived.Test.YtefdjdipbnnoaaaGreatDoorParseP17
import Derived.Test.YtefdjdipbnnoaaaGreatDoorSame17
import Derived.Test.YtefdjdipbnnoaaaGreatDoorAwake17
import Derived.Test.YtefdjdipbnnoaaaGreatDoorStageF17
namespace Go.Proofs.YtefdjdipbnnoaaaGreatDoor
open Go Go.RowKit
set_option linter.unusedVariables false
set_option linter.unusedSimpArgs false

theorem good_valid : ∀ {l : List It} {p : V3}, Good p l → ∀ t ∈ l, validI t = true
  | [], _, _, t, ht => by simp at ht
  | x :: l, p, h, t, ht => by
    obtain ⟨h1, _, _, h4⟩ := h
    rcases List.mem_cons.1 ht with rfl | ht
    · exact h1
    · exact good_valid h4 t ht
theorem fmt_of {l : List It} (h : ∀ t ∈ l, validI t = true) : formatI l = fmtIs l := by unfold formatI; rw [if_pos (List.all_eq_true.2 h)]
theorem self_str (s : ByteArray) : (s.toList == s.toList) = true := by simp
set_option maxRecDepth 100000 in
set_option maxHeartbeats 4000000 in
theorem lround_walk (a1 : Option Addr) (len1 cap1 : Nat) (z1 : List Int) (s : ByteArray) (w : World) (hE : EnvP w) (w1 : IsRow .i64 w a1 len1 cap1 z1) (hn : len1 ≤ 9223372036854775807) : Calls Tryz.prog 5 #[.slice a1 len1 cap1, .string s] w fun e w' => e = .returned (.bool true) ∧ Below w.heap.size w w' := by
  have HE0 := Lib.hid hE
  have hlow := hE.low
  have KL := Lib.hid (light_any w a1 len1 cap1)
  have KN := Lib.hid (tape_new w a1 len1 cap1 z1 w1 hn)
  obtain ⟨z, hz⟩ : ∃ z, (fun i => z1.getD i 0) = z := ⟨_, rfl⟩
  rw [hz] at KN
  clear hE w1 hn hz
  go_enter Tryz.func5, Tryz.ntmps5
  go_wp2_with fail
  refine KL.out.mono ?_
  rintro e w' ⟨rfl, rfl⟩
  by_cases h120 : len1 ≤ 120
  rotate_left
  · have d2 : decide (len1 ≤ 120) = false := decide_eq_false h120
    rw [d2]
    go_wp2_with fail
    refine (awake_true _ HE0.out.env).mono ?_
    rintro e w1 ⟨rfl, b1⟩
    go_wp2_with fail
    go_ret
    exact ⟨rfl, b1⟩
  have d2 : decide (len1 ≤ 120) = true := decide_eq_true h120
  rw [d2]
  by_cases h300 : 300 < s.size
  · have d1 : decide (300 < s.size) = true := decide_eq_true h300
    have d1' : decide (300 < (s.size : Int)) = true := decide_eq_true (by omega)
    go_wp2_with fail
    refine (awake_true _ HE0.out.env).mono ?_
    rintro e w1 ⟨rfl, b1⟩
    go_wp2_with fail
    go_ret
    exact ⟨rfl, b1⟩
  have d1 : decide (300 < s.size) = false := decide_eq_false h300
  have d1' : decide (300 < (s.size : Int)) = false := decide_eq_false (by omega)
  go_wp2_with fail
  refine KN.out.mono ?_
  rintro e w1 ⟨rfl, hs1, b1⟩
  have sz1 := b1.size
  have B1 := Lib.hid b1
  have S1 := Lib.hid hs1
  have l1 := hs1.lt
  clear hs1 b1 KN KL
  go_wp2_with fail
  refine (sitems_any w1 w.heap.size w.heap.size a1 len1 cap1 z ⟨0, S1.out⟩).mono ?_
  rintro e w2 ⟨v2, L, p, rfl, hgood, hL8, hown, G2⟩
  obtain ⟨a5, c5, rfl, hat, hno⟩ := its_own hown
  have B2 : Below w.heap.size w w2 := B1.out.trans (below_of_grown G2.gr (by omega) (fun k e => by injection e; omega))
  have sz2 := B2.size
  have B2 := Lib.hid B2
  have HAT := Lib.hid hat
  have HV := Lib.hid (good_valid hgood)
  clear hat hno hgood hown G2 S1 B1 l1 sz1 d1 d1' d2
  obtain ⟨N, hN⟩ : ∃ N, L.length = N := ⟨_, rfl⟩
  have HN := Lib.hid hN
  have KF := format_any a5 c5 L w2 HAT.out (by omega) (HE0.out.below B2.out hlow).env
  rw [fmt_of HV.out, hN] at KF
  have KF := Lib.hid KF
  have hlenT : (mkB (fmtIs L)).size ≤ 1000000 := by
    rw [mkB_size]
    have := fmtIs_len HV.out
    omega
  have hN8 : N ≤ 8 := by omega
  rw [hN]
  clear hN hL8
  go_wp2_with fail
  refine KF.out.mono ?_
  rintro e w3 ⟨rfl, b3⟩
  have BEL3 := Lib.hid (B2.out.trans (b3.mono sz2))
  have HAT3 := Lib.hid (HAT.out.below b3)
  have KP := parse_any (mkB (fmtIs L)) hlenT w3 (HE0.out.below BEL3.out hlow)
  rw [bl_mkB, parse_fmt HV.out (by have := HN.out; omega), HN.out] at KP
  have KP := Lib.hid KP
  have sz3 := BEL3.out.size
  clear b3 KF B2 HAT hlenT
  go_wp2_with fail
  refine KP.out.mono ?_
  rintro e w4 ⟨v4, rfl, hown4, b4⟩
  simp only at hown4
  obtain ⟨a4, c4, rfl, hat4, _⟩ := its_own hown4
  have BEL4 := Lib.hid (BEL3.out.trans (b4.mono sz3))
  have HAT4 := Lib.hid (HAT3.out.below b4)
  have HBT4 := Lib.hid hat4
  have KP2 := Lib.hid (parse_any s (by omega) w4 (HE0.out.below BEL4.out hlow))
  have sz4 := BEL4.out.size
  simp only [HN.out]
  clear hown4 hat4 b4 KP BEL3 HAT3
  obtain ⟨r, hr⟩ : ∃ r, parseT (bl s) = r := ⟨_, rfl⟩
  have HRR := Lib.hid hr
  rw [hr] at KP2
  clear hr
  go_wp2_with fail
  refine KP2.out.mono ?_
  rintro e w5 ⟨v5, rfl, hown5, b5⟩
  obtain ⟨E, m, x⟩ := r
  simp only at hown5
  simp only
  obtain ⟨a6, c6, rfl, hat5, _⟩ := its_own hown5
  have BEL5 := Lib.hid (BEL4.out.trans (b5.mono sz4))
  have HAT5 := Lib.hid (HAT4.out.below b5)
  have HBT5 := Lib.hid (HBT4.out.below b5)
  have HCT5 := Lib.hid hat5
  have sz5 := BEL5.out.size
  have KA := Lib.hid (awake_true w5 (HE0.out.below BEL5.out hlow).env)
  clear hown5 hat5 b5 KP2 BEL4 HAT4 HBT4
  go_wp2_with fail
  refine KA.out.mono ?_
  rintro e w6 ⟨rfl, b6⟩
  have BEL6 := Lib.hid (BEL5.out.trans (b6.mono sz5))
  have sz6 := BEL6.out.size
  have HCT6 := Lib.hid (HCT5.out.below b6)
  have KS := same_any a5 a4 c5 c4 L w6 (HAT5.out.below b6) (HBT5.out.below b6) (by have := HN.out; omega)
  rw [HN.out] at KS
  have KS := Lib.hid KS
  clear b6 KA BEL5 HAT5 HBT5 HCT5
  go_wp2_with fail
  refine KS.out.mono ?_
  rintro e w7 ⟨rfl, b7⟩
  have BEL7 := Lib.hid (BEL6.out.trans (b7.mono sz6))
  have sz7 := BEL7.out.size
  have HCT7 := Lib.hid (HCT6.out.below b7)
  clear b7 KS BEL6 HCT6
  by_cases hx : x = 0
  · subst hx
    have hb := parse_back (l := bl s) (by rw [HRR.out])
    have hlE : E.length ≤ 300 := by
      have h1 := parse_len _ [] (bl s) (Nat.le_refl _)
      have h2 : parseT (bl s) = parseA [] (bl s) ∨ (parseT (bl s)).1 = [] := by
        unfold parseT
        split
        · exact .inr rfl
        · exact .inl rfl
      rw [HRR.out] at h2
      rcases h2 with h2 | h2
      · rw [← h2, bl_len] at h1
        simp only [List.length_nil] at h1
        omega
      · simp only at h2
        rw [h2]
        simp
    rw [HRR.out] at hb
    obtain ⟨h1, h2, h3⟩ := hb
    simp only at h1 h2 h3
    have KF8 := format_any a6 c6 E w7 HCT7.out (by omega) (HE0.out.below BEL7.out hlow).env
    rw [fmt_of h2, h1, mkB_bl] at KF8
    have KF8 := Lib.hid KF8
    have se := self_str s
    clear h1 h2 h3 HCT7
    go_wp2_with fail
    refine KF8.out.mono ?_
    rintro e w8 ⟨rfl, b8⟩
    go_wp2_with fail
    go_ret
    exact ⟨rfl, BEL7.out.trans (b8.mono sz7)⟩
  · have dx : (x != 0) = true := bne_iff_ne.2 hx
    clear hx
    go_wp2_with fail
    go_ret
    exact ⟨rfl, BEL7.out⟩
end Go.Proofs.YtefdjdipbnnoaaaGreatDoor
