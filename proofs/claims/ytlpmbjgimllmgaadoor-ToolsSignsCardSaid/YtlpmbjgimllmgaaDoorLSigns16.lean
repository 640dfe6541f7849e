/-
  ToolsSigns returns true. Its arguments: any.
-/
import Derived.Test.YtlpmbjgimllmgaaDoorAwake16
namespace Go.Proofs.YtlpmbjgimllmgaaDoor
open Go Go.RowKit
set_option linter.unusedVariables false

theorem lenR_ok {l : List To} (hv : validT l = true) {k : Nat} {t : To} (hk : l[k]? = some t) : lenR l 43 ((k : Int) + 1) = (t.ln + t.lw, 0) ∧ lenR l 44 ((k : Int) + 1) = (-(t.ln + t.lw), 0) ∧ lenR l 49 ((k : Int) + 1) = (0, 0) ∧ lenR l 43 0 = (0, 0) ∧ radR l ((k : Int) + 1) = (t.rd + t.rw, 0) := by
  refine ⟨?_, ?_, lenR_zero hv (by omega) (by omega), lenR_zero hv (by omega) (by omega), radR_in hv hk⟩
  · rw [lenR_in hv (by omega) hk, if_neg (by decide)]
  · rw [lenR_in hv (by omega) hk, if_pos rfl]
set_option maxRecDepth 100000 in
set_option maxHeartbeats 2000000 in
theorem lsigns_walk (a0 : Option Addr) (len0 cap0 : Nat) (z0 : List Int) (n : Int) (w : World) (hE : Env w) (hr : IsRow .i64 w a0 len0 cap0 z0) : Calls Tryd.prog 7 #[.slice a0 len0 cap0, .int .i64 n] w fun e w' => e = .returned (.bool true) ∧ Below w.heap.size w w' := by
  have KLI := light_any w a0 len0 cap0
  have HE := Lib.hid hE
  have HE0 := Lib.hid hE
  have HR := Lib.hid hr
  have hlow := hE.low
  have hmost := hr.most
  clear hE hr
  by_cases h120 : len0 ≤ 120
  · rw [decide_eq_true h120] at KLI
    have KLI := Lib.hid KLI
    have KT := Lib.hid (table_any w a0 len0 cap0 z0 HR.out (by omega))
    go_enter Tryd.func7, Tryd.ntmps7
    go_wp2_with fail
    refine KLI.out.mono ?_
    rintro e w' ⟨rfl, rfl⟩
    clear KLI
    go_wp2_with fail
    refine KT.out.mono ?_
    rintro e w2 ⟨v, ts, rfl, hv, hlen, hown, b2⟩
    obtain ⟨a2, c2, rfl, hat, _⟩ := tos_own hown
    have sz2 := b2.size
    have BEL2 := Lib.hid b2
    have HE2 := Lib.hid (HE.out.below b2 hlow)
    have hlow2 := HE2.out.low
    obtain ⟨N, hn⟩ : ∃ N, ts.length = N := ⟨_, rfl⟩
    have HV := Lib.hid hv
    have HAT2 := Lib.hid hat
    have hN5 : N ≤ 5 := by omega
    clear KT hown b2 hv hlen hat HE
    rcases Nat.eq_zero_or_pos N with h0 | h0
    · have hne : ts = [] := List.length_eq_zero_iff.1 (by omega)
      have R : lenR ts 43 1 = (0, 6) := lenR_out HV.out (by omega) (.inr (by omega))
      have e0 : ((N : Int) == 0) = true := beq_iff_eq.2 (by omega)
      have KL := length_any a2 c2 ts 43 1 w2 HAT2.out (by omega)
      rw [R, hn] at KL
      have KL := Lib.hid KL
      have HN := Lib.hid hn
      rw [hn]
      clear hne R h0 hn
      go_wp2_with fail
      refine KL.out.mono ?_
      rintro e w3 ⟨rfl, b3⟩
      have sz3 := b3.size
      have BEL3 := Lib.hid (BEL2.out.trans (b3.mono (by omega)))
      have KA := Lib.hid (awake_true w3 (HE2.out.below b3 hlow2))
      clear b3 KL BEL2
      unfold offV
      go_wp2_with fail
      refine KA.out.mono ?_
      rintro e w4 ⟨rfl, b4⟩
      go_wp2_with fail
      go_ret
      exact ⟨rfl, BEL3.out.trans (b4.mono (by omega))⟩
    · have e0 : ((N : Int) == 0) = false := beq_eq_false_iff_ne.2 (by omega)
      obtain ⟨r, hr⟩ : ∃ r, n % (N : Int) = r := ⟨_, rfl⟩
      have hr0 := Int.emod_nonneg n (show (N : Int) ≠ 0 by omega)
      have hr1 := Int.emod_lt_of_pos n (show (0 : Int) < (N : Int) by omega)
      rw [hr] at hr0 hr1
      obtain ⟨k, rfl⟩ := Int.eq_ofNat_of_zero_le hr0
      have hkN : k < N := by omega
      have KM := fun W => mod_any n N W (by omega) (by omega)
      rw [hr] at KM
      have KM := Lib.hid KM
      obtain ⟨t, ht⟩ : ∃ t, ts[k]? = some t := ⟨_, List.getElem?_eq_getElem (by omega)⟩
      obtain ⟨R1, R2, R3, R4, R5⟩ := lenR_ok HV.out ht
      have hgd := ((toGood_iff t).1 ((validT_all HV.out).2 t (List.mem_of_getElem? ht)))
      have hb1 : 0 ≤ t.ln + t.lw ∧ t.ln + t.lw ≤ 1048576 := ⟨hgd.2.2.2.2.1, hgd.2.2.2.2.2.1⟩
      have hb2 : 0 ≤ t.rd + t.rw ∧ t.rd + t.rw ≤ 32768 := ⟨hgd.2.2.2.2.2.2.1, hgd.2.2.2.2.2.2.2⟩
      have j0 : (0 : Int) ≤ (k : Int) := by omega
      have j1 : (k : Int) < (N : Int) := by omega
      have HT := Lib.hid ht
      have HR1 := Lib.hid R1
      have HR2 := Lib.hid R2
      have HR3 := Lib.hid R3
      have HR4 := Lib.hid R4
      have HR5 := Lib.hid R5
      have HN := Lib.hid hn
      clear R1 R2 R3 R4 R5 ht hgd hr h0
      rw [hn]
      clear hn
      go_wp2_with fail
      refine (KM.out w2).mono ?_
      rintro e w' ⟨rfl, rfl⟩
      have hn := HN.out
      have K3 := length_any a2 c2 ts 43 ((k : Int) + 1) w2 HAT2.out (by omega)
      rw [HR1.out, hn] at K3
      have K3 := Lib.hid K3
      go_wp2_with fail
      refine K3.out.mono ?_
      rintro e w3 ⟨rfl, b3⟩
      have sz3 := b3.size
      have BEL3 := Lib.hid (BEL2.out.trans (b3.mono (by omega)))
      have HAT3 := Lib.hid (HAT2.out.below b3)
      clear b3 K3 BEL2 HAT2
      unfold offV
      have K4 := length_any a2 c2 ts 44 ((k : Int) + 1) w3 HAT3.out (by omega)
      rw [HR2.out, hn] at K4
      have K4 := Lib.hid K4
      go_wp2_with fail
      refine K4.out.mono ?_
      rintro e w4 ⟨rfl, b4⟩
      have sz4 := b4.size
      have BEL4 := Lib.hid (BEL3.out.trans (b4.mono (by omega)))
      have HAT4 := Lib.hid (HAT3.out.below b4)
      clear b4 K4 BEL3 HAT3
      unfold offV
      have K5 := length_any a2 c2 ts 49 ((k : Int) + 1) w4 HAT4.out (by omega)
      rw [HR3.out, hn] at K5
      have K5 := Lib.hid K5
      go_wp2_with fail
      refine K5.out.mono ?_
      rintro e w5 ⟨rfl, b5⟩
      have sz5 := b5.size
      have BEL5 := Lib.hid (BEL4.out.trans (b5.mono (by omega)))
      have HAT5 := Lib.hid (HAT4.out.below b5)
      clear b5 K5 BEL4 HAT4
      unfold offV
      have K6 := length_any a2 c2 ts 43 0 w5 HAT5.out (by omega)
      rw [HR4.out, hn] at K6
      have K6 := Lib.hid K6
      go_wp2_with fail
      refine K6.out.mono ?_
      rintro e w6 ⟨rfl, b6⟩
      have sz6 := b6.size
      have BEL6 := Lib.hid (BEL5.out.trans (b6.mono (by omega)))
      have HAT6 := Lib.hid (HAT5.out.below b6)
      clear b6 K6 BEL5 HAT5
      unfold offV
      have K7 := radius_any a2 c2 ts ((k : Int) + 1) w6 HAT6.out (by omega)
      rw [HR5.out, hn] at K7
      have K7 := Lib.hid K7
      go_wp2_with fail
      refine K7.out.mono ?_
      rintro e w7 ⟨rfl, b7⟩
      have sz7 := b7.size
      have BEL7 := Lib.hid (BEL6.out.trans (b7.mono (by omega)))
      have HAT7 := Lib.hid (HAT6.out.below b7)
      clear b7 K7 BEL6 HAT6
      unfold offV
      have sz7b := BEL7.out.size
      obtain ⟨b, o, rfl, hbl, hcell⟩ := HAT7.out k t HT.out
      let S : World → Prop := fun W => Below w7.heap.size w7 W
      have hs : S w7.drew := (Below.refl _ _).drew
      have inst : Nonempty (At S) := ⟨⟨_, hs⟩⟩
      have KA := fun q : At S => (awake_true q.w (HE0.out.below (BEL7.out.trans (q.ok.mono sz7b)) hlow)).mono (fun e w' h => (⟨h.1, q.ok.trans (h.2.mono q.ok.size)⟩ : e = .returned (.bool true) ∧ S w'))
      have c0 : ∀ q : At S, q.w.cell? ⟨b, o + k * 4, none⟩ = some (.int .i64 t.ln) := fun q => (q.ok.cell (p := ⟨b, o + k * 4, none⟩) hbl).trans (hcell 0 _ rfl)
      have c1 : ∀ q : At S, q.w.cell? ⟨b, o + k * 4 + 1, none⟩ = some (.int .i64 t.lw) := fun q => (q.ok.cell (p := ⟨b, o + k * 4 + 1, none⟩) hbl).trans (hcell 1 _ rfl)
      have c2' : ∀ q : At S, q.w.cell? ⟨b, o + k * 4 + 2, none⟩ = some (.int .i64 t.rd) := fun q => (q.ok.cell (p := ⟨b, o + k * 4 + 2, none⟩) hbl).trans (hcell 2 _ rfl)
      have c3 : ∀ q : At S, q.w.cell? ⟨b, o + k * 4 + 3, none⟩ = some (.int .i64 t.rw) := fun q => (q.ok.cell (p := ⟨b, o + k * 4 + 3, none⟩) hbl).trans (hcell 3 _ rfl)
      have HFIN := Lib.hid (fun q : At S => BEL7.out.trans (q.ok.mono sz7b))
      have HKA := Lib.hid KA
      clear KM HE2 hcell hn KA
      clear_value S
      go_wp2_with fail
      refine wp_region_at S (by kernel_rfl) (by kernel_rfl) hs ?_
      simp only [List.append_eq, List.cons_append, List.nil_append]
      repeat go_big_quiet_step (with_reducible exact Calls.at_of (HKA.out _) fun e w' h => ⟨h.1, h.2⟩)
      refine wpQuiet_nil ?_
      rintro _ ⟨p, rfl⟩
      have HF := HFIN.out p
      go_wp2_with fail
      go_ret
      exact ⟨rfl, HF⟩
  · rw [decide_eq_false h120] at KLI
    have KLI := Lib.hid KLI
    have KA := Lib.hid (awake_true w HE.out)
    go_enter Tryd.func7, Tryd.ntmps7
    go_wp2_with fail
    refine KLI.out.mono ?_
    rintro e w' ⟨rfl, rfl⟩
    go_wp2_with fail
    refine KA.out.mono ?_
    rintro e w1 ⟨rfl, b1⟩
    go_wp2_with fail
    go_ret
    exact ⟨rfl, b1⟩
end Go.Proofs.YtlpmbjgimllmgaaDoor
