/-
  EventFormat returns true. Its arguments: any.
-/
import Derived.Test.YtkafmpgihhnhdaaDoorAwake33
import Derived.Test.YtkafmpgihhnhdaaDoorRFormat33
import Derived.Test.YtkafmpgihhnhdaaDoorLValid33
import Derived.Test.YtkafmpgihhnhdaaDoorHeldL
namespace Go.Proofs.YtkafmpgihhnhdaaDoor
open Go Go.RowKit
set_option linter.unusedVariables false

theorem same_str (s : ByteArray) : (s.toList == s.toList) = true := by simp
theorem ev_storedO {W : World} {base g cap i j : Nat} {l : List Ev} {t : Ev} (h : W.ownsRow base 28 3 (.slice (some ⟨g, 0, none⟩) l.length cap) l.length (evsC l)) (hi : l[i]? = some t) (hj : j < 3) (v : Int) :
    (W.setCell ⟨g, i * 3 + j, none⟩ (.int .i64 v)).ownsRow base 28 3 (.slice (some ⟨g, 0, none⟩) (l.set i (evPut t j v)).length cap) (l.set i (evPut t j v)).length (evsC (l.set i (evPut t j v))) := by
  have h2 := (h.stored (i * 3 + j) (.int .i64 v)).1
  rw [evsC_set l i j t (evPut t j v) _ hi hj (evPut_C t j hj v)] at h2
  rw [List.length_set]
  exact h2
theorem evs_at {W : World} {base g cap : Nat} {l : List Ev} (h : W.ownsRow base 28 3 (.slice (some ⟨g, 0, none⟩) l.length cap) l.length (evsC l)) : EvsAt W (some ⟨g, 0, none⟩) l := by
  obtain ⟨a, c, ea, hat, _⟩ := evs_own h
  injection ea with e1 e2 e3
  rw [← e1] at hat
  exact hat
theorem own_frozen {W : World} {base g cap : Nat} {l : List Ev} (h : W.ownsRow base 28 3 (.slice (some ⟨g, 0, none⟩) l.length cap) l.length (evsC l)) (j : Nat) : W.frozen? ⟨g, j, none⟩ = false := h.frozenAt j
theorem own_cell {W : World} {base g cap i j : Nat} {l : List Ev} {t : Ev} (h : W.ownsRow base 28 3 (.slice (some ⟨g, 0, none⟩) l.length cap) l.length (evsC l)) (hi : l[i]? = some t) (hj : j < 3) : W.cell? ⟨g, i * 3 + j, none⟩ = (evC t)[j]? := by
  have hlt := (List.getElem?_eq_some_iff.1 hi).1
  rw [h.cellAt _ (by omega)]
  exact evsC_at l i j t hi hj
set_option maxRecDepth 100000 in
set_option maxHeartbeats 4000000 in
theorem lformat_walk (a0 : Option Addr) (len0 cap0 : Nat) (z0 : List Int) (far : Int) (w : World) (hE : Env w) (hr : IsRow .i64 w a0 len0 cap0 z0) : Calls Tryd.prog 4 #[.slice a0 len0 cap0, .int .i64 far] w fun e w' => e = .returned (.bool true) ∧ Below w.heap.size w w' := by
  have KA := Lib.hid (awake_true w hE)
  have HE := Lib.hid hE
  have HR := Lib.hid hr
  have hlow := hE.low
  clear hE hr
  by_cases h5 : 100 < len0
  · have d1 : decide (100 < len0) = true := by simpa using h5
    have d1' : decide (100 < (len0 : Int)) = true := decide_eq_true (by omega)
    go_enter Tryd.func4, Tryd.ntmps4
    go_wp2_with fail
    refine KA.out.mono ?_
    rintro e w1 ⟨rfl, b1⟩
    go_wp2_with fail
    go_ret
    exact ⟨rfl, b1⟩
  have d1 : decide (100 < len0) = false := by simpa using h5
  have d1' : decide (100 < (len0 : Int)) = false := decide_eq_false (by omega)
  go_enter Tryd.func4, Tryd.ntmps4
  go_wp2_with fail
  refine KA.out.mono ?_
  rintro e w1 ⟨rfl, b1⟩
  have HE1 := Lib.hid (HE.out.below b1 hlow)
  have KV := Lib.hid (events_any w1 a0 len0 cap0 z0 (HR.out.below b1) (by omega))
  have BEL1 := Lib.hid b1
  have sz1 := b1.size
  clear b1 KA HE
  go_wp2_with fail
  refine KV.out.mono ?_
  rintro e w2 ⟨v, E, rfl, hv, hlen, hown, b2⟩
  obtain ⟨a2, c2, rfl, hat, _, hbs⟩ := evs_form hown
  have sz2 := b2.size
  have BEL2 := Lib.hid (BEL1.out.trans (b2.mono (by omega)))
  have HE2 := Lib.hid (HE1.out.below b2 (by omega))
  have HOK := Lib.hid (valid_ok hv)
  have HVA := Lib.hid (validE_all hv)
  have hlow2 := HE2.out.low
  obtain ⟨n, hn⟩ : ∃ n, E.length = n := ⟨_, rfl⟩
  have HN := Lib.hid hn
  have hn100 : n ≤ 100 := by omega
  have HAT := Lib.hid hat
  rcases Nat.eq_zero_or_pos n with hn0 | hn0
  · have e0 : decide (0 < n) = false := decide_eq_false (by omega)
    have e0' : decide (0 < (n : Int)) = false := decide_eq_false (by omega)
    rw [hn]
    obtain ⟨E', hE'⟩ : ∃ E', E = E' := ⟨_, rfl⟩
    have HG : Hid (EvsAt w2 a2 E') := by rw [← hE']; exact HAT
    have HLN2 := Lib.hid (by rw [← hE']; exact hn : E'.length = n)
    have hok : ∀ e ∈ E', evOK e := by rw [← hE']; exact HOK.out
    have HE3 := HE2
    have BEL3 := BEL2
    clear hE' hown hat hbs b2 hv KV hlen hn hn0 HAT HE2 BEL2 HOK HVA HE1
    have HOK := Lib.hid hok
    have KF := format_any a2 c2 E' w2 HG.out (by rw [HLN2.out]; omega) hok HE3.out
    rw [HLN2.out] at KF
    have KF := Lib.hid KF
    clear hok
    go_wp2_with fail
    refine KF.out.mono ?_
    rintro e w11 ⟨rfl, b11⟩
    have sz11 := b11.size
    have BEL11 := Lib.hid (BEL3.out.trans (b11.mono (by omega)))
    have KR := rformat_any a2 c2 E' w11 (HG.out.below b11) (by rw [HLN2.out]; omega) HOK.out (HE3.out.below b11 (by omega))
    rw [HLN2.out] at KR
    have KR := Lib.hid KR
    clear b11 KF BEL3 HG HE3
    go_wp2_with fail
    refine KR.out.mono ?_
    rintro e w12 ⟨rfl, b12⟩
    have se := same_str (mkB (fmtL E'))
    go_wp2_with fail
    go_ret
    exact ⟨rfl, BEL11.out.trans (b12.mono (by omega))⟩
  · have e0 : decide (0 < n) = true := decide_eq_true (by omega)
    have e0' : decide (0 < (n : Int)) = true := decide_eq_true (by omega)
    obtain ⟨m, rfl⟩ : ∃ m, n = m + 1 := ⟨n - 1, by omega⟩
    obtain ⟨t, ht⟩ : ∃ t, E[m]? = some t := ⟨_, List.getElem?_eq_getElem (by omega)⟩
    obtain ⟨g, o, rfl, hg2, _⟩ := hat m t ht
    obtain ⟨rfl, hge⟩ := hbs g o rfl
    obtain ⟨r1, hr1⟩ : ∃ r, far % 1073741825 = r := ⟨_, rfl⟩
    have h10 := Int.emod_nonneg far (show (1073741825 : Int) ≠ 0 by omega)
    have h11 := Int.emod_lt_of_pos far (show (0 : Int) < 1073741825 by omega)
    have KM1 := fun W => mod_any far 1073741825 W (by omega) (by omega)
    rw [hr1] at h10 h11
    simp only [hr1] at KM1
    obtain ⟨r2, hr2⟩ : ∃ r, far % 2147483649 = r := ⟨_, rfl⟩
    have h20 := Int.emod_nonneg far (show (2147483649 : Int) ≠ 0 by omega)
    have h21 := Int.emod_lt_of_pos far (show (0 : Int) < 2147483649 by omega)
    have KM2 := fun W => mod_any far 2147483649 W (by omega) (by omega)
    rw [hr2] at h20 h21
    simp only [hr2] at KM2
    have KM1 := Lib.hid KM1
    have KM2 := Lib.hid KM2
    have hva := HVA.out t (List.mem_of_getElem? ht)
    obtain ⟨x, hx⟩ : ∃ x, max t.cy r1 = x := ⟨_, rfl⟩
    have hxb : 0 ≤ x ∧ x ≤ 1073741824 := by omega
    have hx1 := Lib.hid hx
    have bD : Below w2.heap.size w2 w2.drew := (Below.refl _ _).drew
    have szD : w2.drew.heap.size = w2.heap.size := rfl
    have hownD : w2.drew.ownsRow w1.heap.size 28 3 (.slice (some ⟨g, 0, none⟩) E.length c2) E.length (evsC E) := hown
    have BELD := BEL2.out.trans (bD.mono (by omega))
    have HED := HE2.out.below bD (by omega)
    obtain ⟨W2, hW2⟩ : ∃ W, w2.drew = W := ⟨_, rfl⟩
    rw [hW2] at hownD BELD HED szD
    -- the list behind the stores
    have ow1 := ev_storedO (j := 0) hownD ht (by omega) x
    have ht1 : (E.set m (evPut t 0 x))[m]? = some (evPut t 0 x) := by rw [List.getElem?_set_self (by omega)]
    have ow2 := ev_storedO (j := 2) ow1 ht1 (by omega) (r2 - 1073741824)
    have fz1 : W2.frozen? ⟨g, m * 3, none⟩ = false := own_frozen hownD (m * 3)
    have fz2 : (W2.setCell ⟨g, m * 3, none⟩ (.int .i64 x)).frozen? ⟨g, m * 3 + 2, none⟩ = false := own_frozen ow1 (m * 3 + 2)
    have cz0 : W2.cell? ⟨g, m * 3, none⟩ = some (.int .i64 t.cy) := own_cell (j := 0) hownD ht (by omega)
    have cz2 : (W2.setCell ⟨g, m * 3, none⟩ (.int .i64 x)).cell? ⟨g, m * 3 + 2, none⟩ = some (.int .i64 t.n) := own_cell (j := 2) (t := evPut t 0 x) ow1 ht1 (by omega)
    have EA := evs_at ow2
    rw [List.set_set] at EA
    have hok : ∀ e ∈ E.set m (evPut (evPut t 0 x) 2 (r2 - 1073741824)), evOK e := by
      intro e he
      rcases List.mem_or_eq_of_mem_set he with he | rfl
      · exact HOK.out e he
      · exact ⟨by show x.natAbs < _; have : (10 : Nat) ^ 10 = 10000000000 := by decide
                  omega, by show (r2 - 1073741824).natAbs < _; have : (10 : Nat) ^ 10 = 10000000000 := by decide
                            omega, hva.2.2.1, hva.2.2.2.1⟩
    have BS := (BELD.setCell (p := ⟨g, m * 3, none⟩) (by show w.heap.size ≤ g; omega) (.int .i64 x)).setCell (p := ⟨g, m * 3 + 2, none⟩) (by show w.heap.size ≤ g; omega) (.int .i64 (r2 - 1073741824))
    have ES := HED.below (((Below.refl w1.heap.size W2).setCell (p := ⟨g, m * 3, none⟩) (by show w1.heap.size ≤ g; omega) (.int .i64 x)).setCell (p := ⟨g, m * 3 + 2, none⟩) (by show w1.heap.size ≤ g; omega) (.int .i64 (r2 - 1073741824))) (by have := HE1.out.low; omega)
    have szW : ((W2.setCell ⟨g, m * 3, none⟩ (.int .i64 x)).setCell ⟨g, m * 3 + 2, none⟩ (.int .i64 (r2 - 1073741824))).heap.size = W2.heap.size := by simp [World.setCell]
    have BEL3 := Lib.hid BS
    have HE3 := Lib.hid ES
    obtain ⟨E', hE'⟩ : ∃ E', E.set m (evPut (evPut t 0 x) 2 (r2 - 1073741824)) = E' := ⟨_, rfl⟩
    rw [hE'] at EA hok
    have HG := Lib.hid EA
    have HLN2 := Lib.hid (by rw [← hE', List.length_set]; exact hn : E'.length = m + 1)
    have m0 : (0 : Int) ≤ (m : Int) := by omega
    have m1 : (m : Int) < ((m + 1 : Nat) : Int) := by omega
    have m2 : (m : Int) < (m : Int) + 1 := by omega
    have hmw : ((m + 1 : Nat) : Int) - 1 = m := by omega
    have szb : w.heap.size ≤ w2.heap.size := by omega
    have HD := Lib.hid hW2
    have CZ0 := Lib.hid cz0
    rw [hn]
    clear hE' hown hownD hat hbs b2 hv KV hlen hn hn0 HAT HE2 BEL2 HVA HE1 ow1 ow2 ht1 ht BS ES EA BELD HED bD hW2 hr1 hr2 hx hva HR cz0 HOK
    have HOK := Lib.hid hok
    clear hok
    go_wp2_with fail
    refine region_L (fun W => W = W2) [23, 26] (by kernel_rfl) ?_
    rw [HD.out]
    have hS0 : W2 = W2 := rfl
    refine take_P 0 (v := .slice (some ⟨g, 0, none⟩) (m + 1) c2) rfl (by kernel_rfl) (by kernel_rfl) (by kernel_rfl) (fun _ _ _ h => h) rfl (fun W' => by go_simp) ?_
    refine take_P 1 (v := .slice (some ⟨g, 0, none⟩) (m + 1) c2) rfl (by kernel_rfl) (by kernel_rfl) (by kernel_rfl) (fun _ _ _ h => h) rfl (fun W' => by go_simp) ?_
    refine take_P 2 (v := .int .i64 ((m + 1 : Nat) : Int)) rfl (by kernel_rfl) (by kernel_rfl) (by kernel_rfl) (fun _ _ _ h => h) rfl (fun W' => by go_simp) ?_
    refine take_P 3 (v := .int .i64 (m : Int)) rfl (by kernel_rfl) (by kernel_rfl) (by kernel_rfl) (fun _ _ _ h => h) rfl (fun W' => by have hw : IntKind.i64.wrap (m : Int) = m := (by rw [IntKind.wrap_i64]; omega); go_simp; try exact hw) ?_
    refine take_P 4 (v := .slice (some ⟨g, 0, none⟩) (m + 1) c2) rfl (by kernel_rfl) (by kernel_rfl) (by kernel_rfl) (fun _ _ _ h => h) rfl (fun W' => by go_simp) ?_
    refine take_P 5 (v := .slice (some ⟨g, 0, none⟩) (m + 1) c2) rfl (by kernel_rfl) (by kernel_rfl) (by kernel_rfl) (fun _ _ _ h => h) rfl (fun W' => by go_simp) ?_
    refine take_P 6 (v := .int .i64 ((m + 1 : Nat) : Int)) rfl (by kernel_rfl) (by kernel_rfl) (by kernel_rfl) (fun _ _ _ h => h) rfl (fun W' => by go_simp) ?_
    refine take_P 7 (v := .int .i64 (m : Int)) rfl (by kernel_rfl) (by kernel_rfl) (by kernel_rfl) (fun _ _ _ h => h) rfl (fun W' => by have hw : IntKind.i64.wrap (m : Int) = m := (by rw [IntKind.wrap_i64]; omega); go_simp; try exact hw) ?_
    refine take_P 8 (v := .slice (some ⟨g, 0, none⟩) (m + 1) c2) rfl (by kernel_rfl) (by kernel_rfl) (by kernel_rfl) (fun _ _ _ h => h) rfl (fun W' => by go_simp) ?_
    refine take_P 9 (v := .slice (some ⟨g, 0, none⟩) (m + 1) c2) rfl (by kernel_rfl) (by kernel_rfl) (by kernel_rfl) (fun _ _ _ h => h) rfl (fun W' => by go_simp) ?_
    refine take_P 10 (v := .int .i64 ((m + 1 : Nat) : Int)) rfl (by kernel_rfl) (by kernel_rfl) (by kernel_rfl) (fun _ _ _ h => h) rfl (fun W' => by go_simp) ?_
    refine take_P 11 (v := .int .i64 (m : Int)) rfl (by kernel_rfl) (by kernel_rfl) (by kernel_rfl) (fun _ _ _ h => h) rfl (fun W' => by have hw : IntKind.i64.wrap (m : Int) = m := (by rw [IntKind.wrap_i64]; omega); go_simp; try exact hw) ?_
    refine take_P 12 (v := .pointer (some ⟨g, m * 3, none⟩)) rfl (by kernel_rfl) (by kernel_rfl) (by kernel_rfl) (fun _ _ _ h => h) rfl (fun W' => by go_simp) ?_
    refine take_P 13 (v := .pointer (some ⟨g, m * 3, none⟩)) rfl (by kernel_rfl) (by kernel_rfl) (by kernel_rfl) (fun _ _ _ h => h) rfl (fun W' => by go_simp) ?_
    refine take_L 14 (v := .int .i64 t.cy) rfl (by kernel_rfl) (by kernel_rfl) (by kernel_rfl) (by kernel_rfl) (fun _ _ _ h => h) rfl (fun W' hW' => by have z := CZ0.out; go_simp) hS0 ?_
    refine take_P 15 (v := .int .i64 far) rfl (by kernel_rfl) (by kernel_rfl) (by kernel_rfl) (fun _ _ _ h => h) rfl (fun W' => by go_simp) ?_
    refine take_P 18 (v := .int .i64 far) rfl (by kernel_rfl) (by kernel_rfl) (by kernel_rfl) (fun _ _ _ h => h) rfl (fun W' => by go_simp) ?_
    refine one_L 16 (by kernel_rfl) rfl rfl fun K16 hK16 => ?_
    have HK16 := Lib.hid hK16
    clear hK16
    go_simp
    refine (KM1.out _).mono ?_
    rintro e W ⟨rfl, rfl⟩
    refine HK16.out _ _ (fun _ h => h) ?_
    refine take_P 17 (v := .int .i64 x) rfl (by kernel_rfl) (by kernel_rfl) (by kernel_rfl) (fun _ _ _ h => h) rfl (fun W' => by have hx := hx1.out; go_simp; try exact hx) ?_
    refine one_L 19 (by kernel_rfl) rfl rfl fun K19 hK19 => ?_
    have HK19 := Lib.hid hK19
    clear hK19
    go_simp
    refine (KM2.out _).mono ?_
    rintro e W ⟨rfl, rfl⟩
    refine HK19.out _ _ (fun _ h => h) ?_
    refine take_P 20 (v := .int .i64 (r2 - 1073741824)) rfl (by kernel_rfl) (by kernel_rfl) (by kernel_rfl) (fun _ _ _ h => h) rfl (fun W' => by have hw : IntKind.i64.wrap (r2 - 1073741824) = r2 - 1073741824 := (by rw [IntKind.wrap_i64]; omega); go_simp; try exact hw) ?_
    refine take_P 21 (v := .pointer (some ⟨g, m * 3, none⟩)) rfl (by kernel_rfl) (by kernel_rfl) (by kernel_rfl) (fun _ _ _ h => h) rfl (fun W' => by go_simp) ?_
    refine take_P 22 (v := .pointer (some ⟨g, m * 3, none⟩)) rfl (by kernel_rfl) (by kernel_rfl) (by kernel_rfl) (fun _ _ _ h => h) rfl (fun W' => by go_simp) ?_
    have cz0 := CZ0.out
    refine one_L 23 (by kernel_rfl) rfl rfl fun K23 hK23 => ?_
    have HK23 := Lib.hid hK23
    clear hK23
    go_simp
    refine HK23.out _ _ (fun h => absurd h (by decide)) ?_
    refine take_P 24 (v := .pointer (some ⟨g, m * 3, none⟩)) rfl (by kernel_rfl) (by kernel_rfl) (by kernel_rfl) (fun _ _ _ h => h) rfl (fun W' => by go_simp) ?_
    refine take_P 25 (v := .pointer (some ⟨g, m * 3 + 2, none⟩)) rfl (by kernel_rfl) (by kernel_rfl) (by kernel_rfl) (fun _ _ _ h => h) rfl (fun W' => by go_simp) ?_
    refine one_L 26 (by kernel_rfl) rfl rfl fun K26 hK26 => ?_
    have HK26 := Lib.hid hK26
    clear hK26
    go_simp
    refine HK26.out _ _ (fun h => absurd h (by decide)) ?_
    refine done_L (by kernel_rfl) ?_ _
    clear HK16 HK19 HK23 HK26
    have hok := HOK.out
    go_simp
    have HOK := Lib.hid hok
    have KF := format_any (some ⟨g, 0, none⟩) c2 E' ((W2.setCell ⟨g, m * 3, none⟩ (.int .i64 x)).setCell ⟨g, m * 3 + 2, none⟩ (.int .i64 (r2 - 1073741824))) HG.out (by rw [HLN2.out]; omega) hok HE3.out
    rw [HLN2.out] at KF
    have KF := Lib.hid KF
    clear hok
    go_wp2_with fail
    refine KF.out.mono ?_
    rintro e w11 ⟨rfl, b11⟩
    have sz11 := b11.size
    have BEL11 := Lib.hid (BEL3.out.trans (b11.mono (by omega)))
    have KR := rformat_any (some ⟨g, 0, none⟩) c2 E' w11 (HG.out.below b11) (by rw [HLN2.out]; omega) HOK.out (HE3.out.below b11 (by omega))
    rw [HLN2.out] at KR
    have KR := Lib.hid KR
    clear b11 KF BEL3 HG HE3
    go_wp2_with fail
    refine KR.out.mono ?_
    rintro e w12 ⟨rfl, b12⟩
    have se := same_str (mkB (fmtL E'))
    go_wp2_with fail
    go_ret
    exact ⟨rfl, BEL11.out.trans (b12.mono (by omega))⟩
end Go.Proofs.YtkafmpgihhnhdaaDoor
