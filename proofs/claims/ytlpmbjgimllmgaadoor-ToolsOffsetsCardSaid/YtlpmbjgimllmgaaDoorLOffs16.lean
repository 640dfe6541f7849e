/-
  ToolsOffsets returns true. Its arguments: any.
-/
import Derived.Test.YtlpmbjgimllmgaaDoorAwake16
namespace Go.Proofs.YtlpmbjgimllmgaaDoor
open Go Go.RowKit
set_option linter.unusedVariables false

def codes : List Int := [43, 44, 49]
theorem codes_at (r : Int) (h0 : 0 ≤ r) (h1 : r < 3) : ∃ x, (codes.map (Value.int .i64)).toArray[r.toNat]? = some (.int .i64 x) := by
  have h : r = 0 ∨ r = 1 ∨ r = 2 := by omega
  rcases h with rfl | rfl | rfl <;> exact ⟨_, rfl⟩
set_option maxRecDepth 100000 in
set_option maxHeartbeats 4000000 in
theorem loffs_walk (a0 : Option Addr) (len0 cap0 : Nat) (a1 : Option Addr) (len1 cap1 : Nat) (z1 : List Int) (code0 n0 : Int) (w : World) (hE : Env w) (h0 : Leaf w (.tab toolKs) (.slice a0 len0 cap0)) (hr : IsRow .i64 w a1 len1 cap1 z1) : Calls Tryd.prog 6 #[.slice a0 len0 cap0, .slice a1 len1 cap1, .int .i64 code0, .int .i64 n0] w fun e w' => e = .returned (.bool true) ∧ Below w.heap.size w w' := by
  have KLI := light_any w a1 len1 cap1
  have HE0 := Lib.hid hE
  have HR := Lib.hid hr
  have hlow := hE.low
  have hmost := hr.most
  obtain ⟨raw, hrl, hraw, hr63⟩ := tos_tab h0
  have HRAW := Lib.hid hraw
  have HRL := Lib.hid hrl
  have KA0 := Lib.hid (awake_true w HE0.out)
  clear hE hr h0 hraw hrl
  by_cases h50 : 50 < len0
  · have d1 : decide (50 < len0) = true := decide_eq_true h50
    have d1' : decide (50 < (len0 : Int)) = true := decide_eq_true (by omega)
    go_enter Tryd.func6, Tryd.ntmps6
    go_wp2_with fail
    refine KA0.out.mono ?_
    rintro e w1 ⟨rfl, b1⟩
    go_wp2_with fail
    go_ret
    exact ⟨rfl, b1⟩
  have d0 : decide (50 < len0) = false := decide_eq_false h50
  have d0' : decide (50 < (len0 : Int)) = false := decide_eq_false (by omega)
  by_cases h120 : len1 ≤ 120
  · rw [decide_eq_true h120] at KLI
    have KLI := Lib.hid KLI
    have hlen50 : len0 ≤ 50 := by omega
    clear h50 KA0
    go_enter Tryd.func6, Tryd.ntmps6
    go_wp2_with fail
    refine KLI.out.mono ?_
    rintro e w' ⟨rfl, rfl⟩
    clear KLI
    go_wp2_with fail
    go_loopw [2, 3, 9] (fun s2 s3 s9 wr => ∃ (code n : Int) (i : Nat), i ≤ 3 ∧ s2 = .int .i64 code ∧ s3 = .int .i64 n ∧ s9 = .int .i64 i ∧ Below w.heap.size w wr)
      (fun _ _ s9 _ => 3 - (intOf s9).toNat)
    case atStart => exact ⟨code0, n0, 0, by omega, rfl, rfl, rfl, Below.refl _ _⟩
    case round =>
      obtain ⟨code, n, i, hi, rfl, rfl, rfl, bel⟩ := hrel
      have BEL := Lib.hid bel
      have hsz := bel.size
      have hi4 : i = 0 ∨ i = 1 ∨ i = 2 ∨ i = 3 := by omega
      clear bel hi
      have KT := Lib.hid (table_any wr a1 len1 cap1 z1 (HR.out.below BEL.out) (by omega))
      rcases hi4 with rfl | rfl | rfl | rfl
      · go_wp2_with fail
        refine KT.out.mono ?_
        rintro e w2 ⟨v, ts, rfl, hv, hlen, hown, b2⟩
        obtain ⟨a2, c2, rfl, hat, _⟩ := tos_own hown
        have sz2 := b2.size
        have BEL2 := Lib.hid (BEL.out.trans (b2.mono hsz))
        have HAT2 := Lib.hid (HRAW.out.below BEL2.out)
        obtain ⟨T, hT⟩ : ∃ T, raw = T := ⟨_, rfl⟩
        have HTN := Lib.hid (by rw [← hT]; exact HRL.out : T.length = len0)
        have HTL := Lib.hid (by rw [HTN.out]; exact hlen50 : T.length ≤ 50)
        rw [hT] at HAT2
        clear KT hown b2 hv hlen hat hT
        have KL3 := length_any a0 cap0 T code n w2 HAT2.out (by have := HTL.out; omega)
        rw [HTN.out] at KL3
        obtain ⟨⟨x1, x2⟩, hx⟩ : ∃ x, lenR T code n = x := ⟨_, rfl⟩
        obtain ⟨⟨y1, y2⟩, hy⟩ : ∃ x, radR T n = x := ⟨_, rfl⟩
        have HX := Lib.hid hx
        have HY := Lib.hid hy
        rw [hx] at KL3
        have KL3 := Lib.hid KL3
        clear hx hy
        go_wp2_with fail
        refine KL3.out.mono ?_
        rintro e w3 ⟨rfl, b3⟩
        have sz3 := b3.size
        have BEL3 := Lib.hid (BEL2.out.trans (b3.mono (by omega)))
        have HAT3 := Lib.hid (HAT2.out.below b3)
        have KL4 := rlength_any a0 cap0 T code n w3 HAT3.out (by have := HTL.out; omega)
        rw [HX.out, HTN.out] at KL4
        have KL4 := Lib.hid KL4
        clear b3 KL3
        unfold offV
        go_wp2_with fail
        refine KL4.out.mono ?_
        rintro e w4 ⟨rfl, b4⟩
        have sz4 := b4.size
        have BEL4 := Lib.hid (BEL3.out.trans (b4.mono (by omega)))
        have HAT4 := Lib.hid (HAT3.out.below b4)
        have KR5 := radius_any a0 cap0 T n w4 HAT4.out (by have := HTL.out; omega)
        rw [HY.out, HTN.out] at KR5
        have KR5 := Lib.hid KR5
        clear b4 KL4 BEL3 HAT3
        unfold offV
        go_wp2_with fail
        refine KR5.out.mono ?_
        rintro e w5 ⟨rfl, b5⟩
        have sz5 := b5.size
        have BEL5 := Lib.hid (BEL4.out.trans (b5.mono (by omega)))
        have HAT5 := Lib.hid (HAT4.out.below b5)
        have KR6 := rradius_any a0 cap0 T n w5 HAT5.out (by have := HTL.out; omega)
        rw [HY.out, HTN.out] at KR6
        have KR6 := Lib.hid KR6
        clear b5 KR5 BEL4 HAT4
        unfold offV
        go_wp2_with fail
        refine KR6.out.mono ?_
        rintro e w6 ⟨rfl, b6⟩
        have sz6 := b6.size
        have BEL6 := Lib.hid (BEL5.out.trans (b6.mono (by omega)))
        clear b6 KR6 BEL5 HAT5 HX HY
        have dx1 : (x1 != x1) = false := by simp
        have dx2 : (x2 != x2) = false := by simp
        have dy1 : (y1 != y1) = false := by simp
        have dy2 : (y2 != y2) = false := by simp
        unfold offV
        go_wp2_with fail
        go_roundw
        case rel => exact ⟨code, n, 1, by omega, rfl, rfl, by rfl, BEL6.out⟩
        case measure => simp [intOf]
      · go_wp2_with fail
        refine KT.out.mono ?_
        rintro e w2 ⟨v, T, rfl, hv, hlen, hown, b2⟩
        obtain ⟨a2, c2, rfl, hat, _⟩ := tos_own hown
        have sz2 := b2.size
        have BEL2 := Lib.hid (BEL.out.trans (b2.mono hsz))
        have HAT2 := Lib.hid hat
        obtain ⟨N, hN⟩ : ∃ N, T.length = N := ⟨_, rfl⟩
        have HTN := Lib.hid hN
        have HTL := Lib.hid (by omega : T.length ≤ 50)
        rw [hN]
        clear KT hown b2 hv hlen hat hN
        have KL3 := length_any a2 c2 T code n w2 HAT2.out (by have := HTL.out; omega)
        rw [HTN.out] at KL3
        obtain ⟨⟨x1, x2⟩, hx⟩ : ∃ x, lenR T code n = x := ⟨_, rfl⟩
        obtain ⟨⟨y1, y2⟩, hy⟩ : ∃ x, radR T n = x := ⟨_, rfl⟩
        have HX := Lib.hid hx
        have HY := Lib.hid hy
        rw [hx] at KL3
        have KL3 := Lib.hid KL3
        clear hx hy
        go_wp2_with fail
        refine KL3.out.mono ?_
        rintro e w3 ⟨rfl, b3⟩
        have sz3 := b3.size
        have BEL3 := Lib.hid (BEL2.out.trans (b3.mono (by omega)))
        have HAT3 := Lib.hid (HAT2.out.below b3)
        have KL4 := rlength_any a2 c2 T code n w3 HAT3.out (by have := HTL.out; omega)
        rw [HX.out, HTN.out] at KL4
        have KL4 := Lib.hid KL4
        clear b3 KL3
        unfold offV
        go_wp2_with fail
        refine KL4.out.mono ?_
        rintro e w4 ⟨rfl, b4⟩
        have sz4 := b4.size
        have BEL4 := Lib.hid (BEL3.out.trans (b4.mono (by omega)))
        have HAT4 := Lib.hid (HAT3.out.below b4)
        have KR5 := radius_any a2 c2 T n w4 HAT4.out (by have := HTL.out; omega)
        rw [HY.out, HTN.out] at KR5
        have KR5 := Lib.hid KR5
        clear b4 KL4 BEL3 HAT3
        unfold offV
        go_wp2_with fail
        refine KR5.out.mono ?_
        rintro e w5 ⟨rfl, b5⟩
        have sz5 := b5.size
        have BEL5 := Lib.hid (BEL4.out.trans (b5.mono (by omega)))
        have HAT5 := Lib.hid (HAT4.out.below b5)
        have KR6 := rradius_any a2 c2 T n w5 HAT5.out (by have := HTL.out; omega)
        rw [HY.out, HTN.out] at KR6
        have KR6 := Lib.hid KR6
        clear b5 KR5 BEL4 HAT4
        unfold offV
        go_wp2_with fail
        refine KR6.out.mono ?_
        rintro e w6 ⟨rfl, b6⟩
        have sz6 := b6.size
        have BEL6 := Lib.hid (BEL5.out.trans (b6.mono (by omega)))
        clear b6 KR6 BEL5 HAT5 HX HY
        have dx1 : (x1 != x1) = false := by simp
        have dx2 : (x2 != x2) = false := by simp
        have dy1 : (y1 != y1) = false := by simp
        have dy2 : (y2 != y2) = false := by simp
        unfold offV
        have KB := Lib.hid (between_any n (-1) 7 w6 (by omega) (by omega) (by omega))
        obtain ⟨q, hq⟩ : ∃ q, code % 3 = q := ⟨_, rfl⟩
        have q0 := Int.emod_nonneg code (show (3 : Int) ≠ 0 by omega)
        have q1 := Int.emod_lt_of_pos code (show (0 : Int) < 3 by omega)
        rw [hq] at q0 q1
        have KM := fun W => mod_any code 3 W (by omega) (by omega)
        simp only [hq] at KM
        have KM := Lib.hid KM
        obtain ⟨x, hx⟩ := codes_at q q0 q1
        have BC := Blk.new w6 3 (codes.map (Value.int .i64)).toArray
        have c9 : (w6.alloc (.cells #[.int .i64 43, .int .i64 44, .int .i64 49] 3)).cell? ⟨w6.heap.size, q.toNat, none⟩ = some (.int .i64 x) := (BC.cell _).trans hx
        clear hq hx BC
        go_wp2_with fail
        refine KB.out.mono ?_
        rintro e w' ⟨rfl, rfl⟩
        obtain ⟨n', hn'⟩ : ∃ n', -1 + n % (7 - -1 + 1) = n' := ⟨_, rfl⟩
        simp only [hn']
        clear hn' KB
        go_wp2_with fail
        refine (KM.out _).mono ?_
        rintro e w' ⟨rfl, rfl⟩
        go_wp2_with fail
        go_roundw
        case rel => exact ⟨x, n', 2, by omega, rfl, rfl, by rfl, BEL6.out.alloc (by omega) _⟩
        case measure => simp [intOf]
      · go_wp2_with fail
        refine KT.out.mono ?_
        rintro e w2 ⟨v, T, rfl, hv, hlen, hown, b2⟩
        obtain ⟨a2, c2, rfl, hat, _⟩ := tos_own hown
        have sz2 := b2.size
        have BEL2 := Lib.hid (BEL.out.trans (b2.mono hsz))
        have HAT2 := Lib.hid hat
        obtain ⟨N, hN⟩ : ∃ N, T.length = N := ⟨_, rfl⟩
        have HTN := Lib.hid hN
        have HTL := Lib.hid (by omega : T.length ≤ 50)
        rw [hN]
        clear KT hown b2 hv hlen hat hN
        have KL3 := length_any a2 c2 T code n w2 HAT2.out (by have := HTL.out; omega)
        rw [HTN.out] at KL3
        obtain ⟨⟨x1, x2⟩, hx⟩ : ∃ x, lenR T code n = x := ⟨_, rfl⟩
        obtain ⟨⟨y1, y2⟩, hy⟩ : ∃ x, radR T n = x := ⟨_, rfl⟩
        have HX := Lib.hid hx
        have HY := Lib.hid hy
        rw [hx] at KL3
        have KL3 := Lib.hid KL3
        clear hx hy
        go_wp2_with fail
        refine KL3.out.mono ?_
        rintro e w3 ⟨rfl, b3⟩
        have sz3 := b3.size
        have BEL3 := Lib.hid (BEL2.out.trans (b3.mono (by omega)))
        have HAT3 := Lib.hid (HAT2.out.below b3)
        have KL4 := rlength_any a2 c2 T code n w3 HAT3.out (by have := HTL.out; omega)
        rw [HX.out, HTN.out] at KL4
        have KL4 := Lib.hid KL4
        clear b3 KL3
        unfold offV
        go_wp2_with fail
        refine KL4.out.mono ?_
        rintro e w4 ⟨rfl, b4⟩
        have sz4 := b4.size
        have BEL4 := Lib.hid (BEL3.out.trans (b4.mono (by omega)))
        have HAT4 := Lib.hid (HAT3.out.below b4)
        have KR5 := radius_any a2 c2 T n w4 HAT4.out (by have := HTL.out; omega)
        rw [HY.out, HTN.out] at KR5
        have KR5 := Lib.hid KR5
        clear b4 KL4 BEL3 HAT3
        unfold offV
        go_wp2_with fail
        refine KR5.out.mono ?_
        rintro e w5 ⟨rfl, b5⟩
        have sz5 := b5.size
        have BEL5 := Lib.hid (BEL4.out.trans (b5.mono (by omega)))
        have HAT5 := Lib.hid (HAT4.out.below b5)
        have KR6 := rradius_any a2 c2 T n w5 HAT5.out (by have := HTL.out; omega)
        rw [HY.out, HTN.out] at KR6
        have KR6 := Lib.hid KR6
        clear b5 KR5 BEL4 HAT4
        unfold offV
        go_wp2_with fail
        refine KR6.out.mono ?_
        rintro e w6 ⟨rfl, b6⟩
        have sz6 := b6.size
        have BEL6 := Lib.hid (BEL5.out.trans (b6.mono (by omega)))
        clear b6 KR6 BEL5 HAT5 HX HY
        have dx1 : (x1 != x1) = false := by simp
        have dx2 : (x2 != x2) = false := by simp
        have dy1 : (y1 != y1) = false := by simp
        have dy2 : (y2 != y2) = false := by simp
        unfold offV
        go_wp2_with fail
        go_roundw
        case rel => exact ⟨code, n, 3, by omega, rfl, rfl, by rfl, BEL6.out⟩
        case measure => simp [intOf]
      · have KA := Lib.hid (awake_true wr (HE0.out.below BEL.out hlow))
        clear KT
        go_wp2_with fail
        refine KA.out.mono ?_
        rintro e w1 ⟨rfl, b1⟩
        go_wp2_with fail
        go_ret
        exact ⟨rfl, BEL.out.trans (b1.mono hsz)⟩
  · rw [decide_eq_false h120] at KLI
    have KLI := Lib.hid KLI
    go_enter Tryd.func6, Tryd.ntmps6
    go_wp2_with fail
    refine KLI.out.mono ?_
    rintro e w' ⟨rfl, rfl⟩
    go_wp2_with fail
    refine KA0.out.mono ?_
    rintro e w1 ⟨rfl, b1⟩
    go_wp2_with fail
    go_ret
    exact ⟨rfl, b1⟩
end Go.Proofs.YtlpmbjgimllmgaaDoor
