/-
  ToolsNumbers returns true. Its arguments: any.
-/
import Derived.Test.YtlpmbjgimllmgaaDoorAwake16
namespace Go.Proofs.YtlpmbjgimllmgaaDoor
open Go Go.RowKit
set_option linter.unusedVariables false

set_option maxRecDepth 100000 in
set_option maxHeartbeats 2000000 in
theorem stage_any (w : World) (g : Nat) (a : Option Addr) (n c : Nat) (z : Nat → Int) (hs : Src w g g a n c z 0) :
    Calls Tryd.prog 25 #[.pointer (some ⟨g, 0, none⟩)] w fun e w' => ∃ a5 c5 N, e = .returned (.slice a5 N c5) ∧ N ≤ 3 ∧ Below g w w' := by
  have J1 := Lib.hid (⟨⟨0, hs⟩, World.ownsRow_nil _ _ _ _, Below.refl _ _, hs.lt⟩ : TJ g a n c z (.slice none 0 0) [] w w)
  clear hs
  go_enter Tryd.func25, Tryd.ntmps25
  have K2 := Lib.hid (next_any w g g a n c z 4 J1.out.src (by omega) (by omega))
  go_wp2_with fail
  refine K2.out.mono ?_
  rintro e w2 ⟨r, k2, hl2, hh2, rfl, hs2, hg2⟩
  have J2 := Lib.hid (J1.out.take hs2 hg2)
  clear hs2 hg2 K2 J1
  go_wp2_with fail
  go_loopw [3, 4] (fun s3 s4 wr => ∃ (ts : List To) (r : Int) (v4 : Value), v4 = s3 ∧ s4 = .int .i64 r ∧ 0 ≤ r ∧ (ts.length : Int) + r ≤ 3 ∧ TJ g a n c z v4 ts w wr)
    (fun _ s4 _ => (intOf s4).toNat)
  case atStart => exact ⟨[], r, _, rfl, rfl, hl2, by simp; omega, J2.out⟩
  case round =>
    obtain ⟨ts, r, v4, rfl, rfl, hr0, hlen, hJ⟩ := hrel
    have HJ := Lib.hid hJ
    have hltr := hJ.lt
    clear hJ J2
    by_cases hpos : 0 < r
    · have d1 : decide (0 < r) = true := decide_eq_true hpos
      have K3 := Lib.hid (next_any wr g g a n c z 5000 HJ.out.src (by omega) (by omega))
      go_wp2_with fail
      refine K3.out.mono ?_
      rintro e w3 ⟨x1, k3, hl3, hh3, rfl, hs3, hg3⟩
      have J3 := Lib.hid (HJ.out.take hs3 hg3)
      clear hs3 hg3 K3 HJ
      have K4 := Lib.hid (next_any w3 g g a n c z 20 J3.out.src (by omega) (by omega))
      go_wp2_with fail
      refine K4.out.mono ?_
      rintro e w4 ⟨x2, k4, hl4, hh4, rfl, hs4, hg4⟩
      have J4 := Lib.hid (J3.out.take hs4 hg4)
      clear hs4 hg4 K4 J3
      have K5 := Lib.hid (next_any w4 g g a n c z 3000 J4.out.src (by omega) (by omega))
      go_wp2_with fail
      refine K5.out.mono ?_
      rintro e w5 ⟨x3, k5, hl5, hh5, rfl, hs5, hg5⟩
      have J5 := Lib.hid (J4.out.take hs5 hg5)
      clear hs5 hg5 K5 J4
      have K6 := Lib.hid (next_any w5 g g a n c z 30 J5.out.src (by omega) (by omega))
      go_wp2_with fail
      refine K6.out.mono ?_
      rintro e w6 ⟨x4, k6, hl6, hh6, rfl, hs6, hg6⟩
      have J6 := Lib.hid (J5.out.take hs6 hg6)
      clear hs6 hg6 K6 J5
      have lt6 := J6.out.lt
      go_wp2_with (first
        | ((with_reducible refine go_built 29 _ #[.int .i64 x1, .int .i64 x2, .int .i64 x3, .int .i64 x4] (by with_unfolding_all kernel_rfl) ?_))
        | ((with_reducible refine go_to1 (.tmp 20) x1 x2 x3 x4 (by with_unfolding_all rfl) ?_))
        | ((with_reducible refine go_toapp (.tmp 11) (.tmp 21) ts ⟨x1, x2, x3, x4⟩ _ (by with_unfolding_all rfl) (J6.out.own.alloc _) (by with_unfolding_all rfl) (by with_unfolding_all exact Blk.new w6 _ _) (by omega) (by simp; omega) ?_); intro v' w10 hown10 hgrow; have JA := J6.out.alloc (.cells #[.int .i64 x1, .int .i64 x2, .int .i64 x3, .int .i64 x4] 29); have J10 : TJ g a n c z v' (ts ++ [⟨x1, x2, x3, x4⟩]) w w10 := ⟨by obtain ⟨kk, hsk⟩ := JA.src; exact ⟨kk, hsk.keep (hgrow.block g (by have := JA.lt; omega) (fun e => by have := (JA.own.lt _ e.symm).1; omega)) (fun p hp => World.cell?_of_block (hgrow.block p.block (by have := JA.lt; omega) (fun e => by have := (JA.own.lt _ e.symm).1; omega)))⟩, hown10, JA.bel.trans (below_of_grown hgrow (by have := JA.lt; omega) (fun k e => by have := (JA.own.lt k e).1; omega)), by have := hgrow.size; have := JA.lt; omega⟩; have FF := Lib.hid J10; clear hown10 hgrow JA J10))
      go_roundw
      case rel => exact ⟨ts ++ [⟨x1, x2, x3, x4⟩], r - 1, _, rfl, by rfl, by omega, by rw [List.length_append]; simp; omega, FF.out⟩
      case measure => simp [intOf]; omega
    · have d1 : decide (0 < r) = false := decide_eq_false hpos
      have hl5 : ts.length ≤ 3 := by omega
      have HB := Lib.hid HJ.out.bel
      obtain ⟨a5, c5, rfl, _, _⟩ := tos_own HJ.out.own
      clear HJ
      go_wp2_with fail
      go_ret
      exact ⟨_, _, _, rfl, hl5, HB.out⟩
theorem lenR_at {l : List To} (hv : validT l = true) (m : Int) : (lenR l 43 m).2 = (if 0 ≤ m ∧ m ≤ l.length then 0 else 6) ∧ (radR l m).2 = (if 0 ≤ m ∧ m ≤ l.length then 0 else 6) ∧ lenR l 49 m = (0, 0) ∧ lenR l 42 m = (0, 1) := by
  refine ⟨?_, ?_, lenR_zero hv (by omega) (by omega), lenR_code m (by omega)⟩
  · by_cases h0 : m < 0 ∨ (l.length : Int) < m
    · rw [lenR_out hv (by omega) h0, if_neg (by omega)]
    · rw [if_pos (by omega)]
      by_cases hm : m = 0
      · subst hm; rw [lenR_zero hv (by omega) (by omega)]
      · obtain ⟨k, rfl⟩ : ∃ k : Nat, m = (k : Int) + 1 := ⟨(m - 1).toNat, by omega⟩
        obtain ⟨t, ht⟩ : ∃ t, l[k]? = some t := ⟨_, List.getElem?_eq_getElem (by omega)⟩
        rw [lenR_in hv (by omega) ht]
  · by_cases h0 : m < 0 ∨ (l.length : Int) < m
    · rw [radR_out hv h0, if_neg (by omega)]
    · rw [if_pos (by omega)]
      by_cases hm : m = 0
      · subst hm; rw [radR_zero hv]
      · obtain ⟨k, rfl⟩ : ∃ k : Nat, m = (k : Int) + 1 := ⟨(m - 1).toNat, by omega⟩
        obtain ⟨t, ht⟩ : ∃ t, l[k]? = some t := ⟨_, List.getElem?_eq_getElem (by omega)⟩
        rw [radR_in hv ht]
set_option maxRecDepth 100000 in
set_option maxHeartbeats 4000000 in
theorem lnumbers_walk (a0 : Option Addr) (len0 cap0 : Nat) (z0 : List Int) (n : Int) (w : World) (hE : Env w) (hr : IsRow .i64 w a0 len0 cap0 z0) : Calls Tryd.prog 8 #[.slice a0 len0 cap0, .int .i64 n] w fun e w' => e = .returned (.bool true) ∧ Below w.heap.size w w' := by
  have KLI := light_any w a0 len0 cap0
  have HE0 := Lib.hid hE
  have HR := Lib.hid hr
  have hlow := hE.low
  have hmost := hr.most
  clear hE hr
  by_cases h120 : len0 ≤ 120
  · rw [decide_eq_true h120] at KLI
    have KLI := Lib.hid KLI
    have KT := Lib.hid (table_any w a0 len0 cap0 z0 HR.out (by omega))
    go_enter Tryd.func8, Tryd.ntmps8
    go_wp2_with fail
    refine KLI.out.mono ?_
    rintro e w' ⟨rfl, rfl⟩
    clear KLI
    go_wp2_with fail
    refine KT.out.mono ?_
    rintro e w2 ⟨v, ts, rfl, hv, hlen, hown, b2⟩
    obtain ⟨a2, c2, rfl, hat, _⟩ := tos_own hown
    have sz2 := b2.size
    have BEL2 := Lib.hid b2
    obtain ⟨N, hn⟩ : ∃ N, ts.length = N := ⟨_, rfl⟩
    have HV := Lib.hid hv
    have HAT2 := Lib.hid hat
    have HN := Lib.hid hn
    have hN5 : N ≤ 5 := by omega
    have KB := fun W => between_any n (-3) ((N : Int) + 3) W (by omega) (by omega) (by omega)
    have hbd := between_bd n (-3) ((N : Int) + 3) (by omega)
    obtain ⟨m, hm⟩ : ∃ m, -3 + n % ((N : Int) + 3 - -3 + 1) = m := ⟨_, rfl⟩
    rw [hm] at hbd
    simp only [hm] at KB
    have KB := Lib.hid KB
    obtain ⟨R1, R2, R3, R4⟩ := lenR_at HV.out m
    rw [hn] at R1 R2
    have HR3 := Lib.hid R3
    have HR4 := Lib.hid R4
    clear KT hown b2 hv hlen hat hm R3 R4
    rw [hn]
    clear hn
    go_wp2_with fail
    refine (KB.out _).mono ?_
    rintro e w' ⟨rfl, rfl⟩
    clear KB
    obtain ⟨⟨x1, x2⟩, hx⟩ : ∃ x, lenR ts 43 m = x := ⟨_, rfl⟩
    obtain ⟨⟨y1, y2⟩, hy⟩ : ∃ x, radR ts m = x := ⟨_, rfl⟩
    rw [hx] at R1
    rw [hy] at R2
    simp only at R1 R2
    have HX := Lib.hid hx
    have HY := Lib.hid hy
    clear hx hy
    have hcase : (decide (0 ≤ m) = false) ∨ (decide (0 ≤ m) = true ∧ decide (m ≤ (N : Int)) = false) ∨ (decide (0 ≤ m) = true ∧ decide (m ≤ (N : Int)) = true) := by
      simp only [decide_eq_true_eq, decide_eq_false_iff_not]
      omega
    rcases hcase with q1 | ⟨q1, q2⟩ | ⟨q1, q2⟩
    · rw [if_neg (by have := of_decide_eq_false q1; omega)] at R1 R2
      subst R1
      subst R2
      have hn := HN.out
      have KL3 := length_any a2 c2 ts 43 m w2 HAT2.out (by omega)
      rw [HX.out, hn] at KL3
      have KL3 := Lib.hid KL3
      go_wp2_with fail
      refine KL3.out.mono ?_
      rintro e w3 ⟨rfl, b3⟩
      have sz3 := b3.size
      have BEL3 := Lib.hid (BEL2.out.trans (b3.mono (by omega)))
      have HAT3 := Lib.hid (HAT2.out.below b3)
      have KR4 := radius_any a2 c2 ts m w3 HAT3.out (by omega)
      rw [HY.out, hn] at KR4
      have KR4 := Lib.hid KR4
      clear b3 KL3 BEL2 HAT2
      unfold offV
      go_wp2_with fail
      refine KR4.out.mono ?_
      rintro e w4 ⟨rfl, b4⟩
      have sz4 := b4.size
      have BEL4 := Lib.hid (BEL3.out.trans (b4.mono (by omega)))
      have HAT4 := Lib.hid (HAT3.out.below b4)
      clear b4 KR4 BEL3 HAT3
      unfold offV
      have K5 := length_any a2 c2 ts 49 m w4 HAT4.out (by omega)
      rw [HR3.out, hn] at K5
      have K5 := Lib.hid K5
      go_wp2_with fail
      refine K5.out.mono ?_
      rintro e w5 ⟨rfl, b5⟩
      have sz5 := b5.size
      have BEL5 := Lib.hid (BEL4.out.trans (b5.mono (by omega)))
      have HAT5 := Lib.hid (HAT4.out.below b5)
      clear b5 K5 BEL4 HAT4
      unfold offV
      have K6 := length_any a2 c2 ts 42 m w5 HAT5.out (by omega)
      rw [HR4.out, hn] at K6
      have K6 := Lib.hid K6
      go_wp2_with fail
      refine K6.out.mono ?_
      rintro e w6 ⟨rfl, b6⟩
      have sz6 := b6.size
      have BEL6 := Lib.hid (BEL5.out.trans (b6.mono (by omega)))
      have HAT6 := Lib.hid (HAT5.out.below b6)
      clear b6 K6 BEL5 HAT5
      unfold offV
      have KA := Lib.hid (awake_true w6 (HE0.out.below BEL6.out hlow))
      have sz6b := BEL6.out.size
      clear hn
      go_wp2_with fail
      refine KA.out.mono ?_
      rintro e w7 ⟨rfl, b7⟩
      have sz7 := b7.size
      have BEL7 := Lib.hid (BEL6.out.trans (b7.mono sz6b))
      have KN := Lib.hid (tape_new w7 a0 len0 cap0 z0 (HR.out.below BEL7.out) (by omega))
      clear b7 KA BEL6 HAT6
      go_wp2_with fail
      refine KN.out.mono ?_
      rintro e w8 ⟨rfl, hs8, b8⟩
      have BEL8 := Lib.hid (BEL7.out.trans (b8.mono (by omega)))
      have KG := Lib.hid (stage_any w8 _ _ _ _ _ hs8)
      clear hs8 b8 KN BEL7
      go_wp2_with fail
      refine KG.out.mono ?_
      rintro e w9 ⟨a9, c9, N9, rfl, h9, b9⟩
      have d9 : decide ((N9 : Int) ≤ 32) = true := decide_eq_true (by omega)
      have d9' : decide (N9 ≤ 32) = true := decide_eq_true (by omega)
      go_wp2_with fail
      go_ret
      exact ⟨rfl, BEL8.out.trans (b9.mono (by omega))⟩
    · rw [if_neg (by have := of_decide_eq_false q2; omega)] at R1 R2
      subst R1
      subst R2
      have hn := HN.out
      have KL3 := length_any a2 c2 ts 43 m w2 HAT2.out (by omega)
      rw [HX.out, hn] at KL3
      have KL3 := Lib.hid KL3
      go_wp2_with fail
      refine KL3.out.mono ?_
      rintro e w3 ⟨rfl, b3⟩
      have sz3 := b3.size
      have BEL3 := Lib.hid (BEL2.out.trans (b3.mono (by omega)))
      have HAT3 := Lib.hid (HAT2.out.below b3)
      have KR4 := radius_any a2 c2 ts m w3 HAT3.out (by omega)
      rw [HY.out, hn] at KR4
      have KR4 := Lib.hid KR4
      clear b3 KL3 BEL2 HAT2
      unfold offV
      go_wp2_with fail
      refine KR4.out.mono ?_
      rintro e w4 ⟨rfl, b4⟩
      have sz4 := b4.size
      have BEL4 := Lib.hid (BEL3.out.trans (b4.mono (by omega)))
      have HAT4 := Lib.hid (HAT3.out.below b4)
      clear b4 KR4 BEL3 HAT3
      unfold offV
      have K5 := length_any a2 c2 ts 49 m w4 HAT4.out (by omega)
      rw [HR3.out, hn] at K5
      have K5 := Lib.hid K5
      go_wp2_with fail
      refine K5.out.mono ?_
      rintro e w5 ⟨rfl, b5⟩
      have sz5 := b5.size
      have BEL5 := Lib.hid (BEL4.out.trans (b5.mono (by omega)))
      have HAT5 := Lib.hid (HAT4.out.below b5)
      clear b5 K5 BEL4 HAT4
      unfold offV
      have K6 := length_any a2 c2 ts 42 m w5 HAT5.out (by omega)
      rw [HR4.out, hn] at K6
      have K6 := Lib.hid K6
      go_wp2_with fail
      refine K6.out.mono ?_
      rintro e w6 ⟨rfl, b6⟩
      have sz6 := b6.size
      have BEL6 := Lib.hid (BEL5.out.trans (b6.mono (by omega)))
      have HAT6 := Lib.hid (HAT5.out.below b6)
      clear b6 K6 BEL5 HAT5
      unfold offV
      have KA := Lib.hid (awake_true w6 (HE0.out.below BEL6.out hlow))
      have sz6b := BEL6.out.size
      clear hn
      go_wp2_with fail
      refine KA.out.mono ?_
      rintro e w7 ⟨rfl, b7⟩
      have sz7 := b7.size
      have BEL7 := Lib.hid (BEL6.out.trans (b7.mono sz6b))
      have KN := Lib.hid (tape_new w7 a0 len0 cap0 z0 (HR.out.below BEL7.out) (by omega))
      clear b7 KA BEL6 HAT6
      go_wp2_with fail
      refine KN.out.mono ?_
      rintro e w8 ⟨rfl, hs8, b8⟩
      have BEL8 := Lib.hid (BEL7.out.trans (b8.mono (by omega)))
      have KG := Lib.hid (stage_any w8 _ _ _ _ _ hs8)
      clear hs8 b8 KN BEL7
      go_wp2_with fail
      refine KG.out.mono ?_
      rintro e w9 ⟨a9, c9, N9, rfl, h9, b9⟩
      have d9 : decide ((N9 : Int) ≤ 32) = true := decide_eq_true (by omega)
      have d9' : decide (N9 ≤ 32) = true := decide_eq_true (by omega)
      go_wp2_with fail
      go_ret
      exact ⟨rfl, BEL8.out.trans (b9.mono (by omega))⟩
    · rw [if_pos ⟨of_decide_eq_true q1, of_decide_eq_true q2⟩] at R1 R2
      subst R1
      subst R2
      have hn := HN.out
      have KL3 := length_any a2 c2 ts 43 m w2 HAT2.out (by omega)
      rw [HX.out, hn] at KL3
      have KL3 := Lib.hid KL3
      go_wp2_with fail
      refine KL3.out.mono ?_
      rintro e w3 ⟨rfl, b3⟩
      have sz3 := b3.size
      have BEL3 := Lib.hid (BEL2.out.trans (b3.mono (by omega)))
      have HAT3 := Lib.hid (HAT2.out.below b3)
      have KR4 := radius_any a2 c2 ts m w3 HAT3.out (by omega)
      rw [HY.out, hn] at KR4
      have KR4 := Lib.hid KR4
      clear b3 KL3 BEL2 HAT2
      unfold offV
      go_wp2_with fail
      refine KR4.out.mono ?_
      rintro e w4 ⟨rfl, b4⟩
      have sz4 := b4.size
      have BEL4 := Lib.hid (BEL3.out.trans (b4.mono (by omega)))
      have HAT4 := Lib.hid (HAT3.out.below b4)
      clear b4 KR4 BEL3 HAT3
      unfold offV
      have K5 := length_any a2 c2 ts 49 m w4 HAT4.out (by omega)
      rw [HR3.out, hn] at K5
      have K5 := Lib.hid K5
      go_wp2_with fail
      refine K5.out.mono ?_
      rintro e w5 ⟨rfl, b5⟩
      have sz5 := b5.size
      have BEL5 := Lib.hid (BEL4.out.trans (b5.mono (by omega)))
      have HAT5 := Lib.hid (HAT4.out.below b5)
      clear b5 K5 BEL4 HAT4
      unfold offV
      have K6 := length_any a2 c2 ts 42 m w5 HAT5.out (by omega)
      rw [HR4.out, hn] at K6
      have K6 := Lib.hid K6
      go_wp2_with fail
      refine K6.out.mono ?_
      rintro e w6 ⟨rfl, b6⟩
      have sz6 := b6.size
      have BEL6 := Lib.hid (BEL5.out.trans (b6.mono (by omega)))
      have HAT6 := Lib.hid (HAT5.out.below b6)
      clear b6 K6 BEL5 HAT5
      unfold offV
      have KA := Lib.hid (awake_true w6 (HE0.out.below BEL6.out hlow))
      have sz6b := BEL6.out.size
      clear hn
      go_wp2_with fail
      refine KA.out.mono ?_
      rintro e w7 ⟨rfl, b7⟩
      have sz7 := b7.size
      have BEL7 := Lib.hid (BEL6.out.trans (b7.mono sz6b))
      have KN := Lib.hid (tape_new w7 a0 len0 cap0 z0 (HR.out.below BEL7.out) (by omega))
      clear b7 KA BEL6 HAT6
      go_wp2_with fail
      refine KN.out.mono ?_
      rintro e w8 ⟨rfl, hs8, b8⟩
      have BEL8 := Lib.hid (BEL7.out.trans (b8.mono (by omega)))
      have KG := Lib.hid (stage_any w8 _ _ _ _ _ hs8)
      clear hs8 b8 KN BEL7
      go_wp2_with fail
      refine KG.out.mono ?_
      rintro e w9 ⟨a9, c9, N9, rfl, h9, b9⟩
      have d9 : decide ((N9 : Int) ≤ 32) = true := decide_eq_true (by omega)
      have d9' : decide (N9 ≤ 32) = true := decide_eq_true (by omega)
      go_wp2_with fail
      go_ret
      exact ⟨rfl, BEL8.out.trans (b9.mono (by omega))⟩
  · rw [decide_eq_false h120] at KLI
    have KLI := Lib.hid KLI
    have KA := Lib.hid (awake_true w HE0.out)
    go_enter Tryd.func8, Tryd.ntmps8
    go_wp2_with fail
    refine KLI.out.mono ?_
    rintro e w' ⟨rfl, rfl⟩
    go_wp2_with fail
    refine KA.out.mono ?_
    rintro e w1 ⟨rfl, b1⟩
    go_wp2_with fail
    go_ret
    exact ⟨rfl, b1⟩
end Go.Proofs.YtlpmbjgimllmgaaDoor
