/-
  tools.Length, cncref16.Length, tools.Radius, cncref16.Radius: the offsets of a tool. Any table, code and number.
-/
import Derived.Test.YtlpmbjgimllmgaaDoorValid16
namespace Go.Proofs.YtlpmbjgimllmgaaDoor
open Go Go.RowKit
set_option linter.unusedVariables false

theorem lenR_bad {l : List To} (code h : Int) (hv : validT l = false) : lenR l code h = (0, 1) := by unfold lenR; rw [if_pos (.inl hv)]
theorem lenR_code {l : List To} {code : Int} (h : Int) (hc : code ≠ 43 ∧ code ≠ 44 ∧ code ≠ 49) : lenR l code h = (0, 1) := by unfold lenR; rw [if_pos (.inr hc)]
theorem lenR_zero {l : List To} {code h : Int} (hv : validT l = true) (hc : code = 43 ∨ code = 44 ∨ code = 49) (h0 : code = 49 ∨ h = 0) : lenR l code h = (0, 0) := by
  unfold lenR
  rw [if_neg (by rw [hv]; rintro (h | h); cases h; omega), if_pos h0]
theorem lenR_out {l : List To} {code h : Int} (hv : validT l = true) (hc : code = 43 ∨ code = 44) (h0 : h < 0 ∨ (l.length : Int) < h) : lenR l code h = (0, 6) := by
  unfold lenR
  rw [if_neg (by rw [hv]; rintro (h | h); cases h; omega), if_neg (by omega), if_pos h0]
theorem lenR_in {l : List To} {code : Int} {k : Nat} {t : To} (hv : validT l = true) (hc : code = 43 ∨ code = 44) (hk : l[k]? = some t) : lenR l code ((k : Int) + 1) = (if code = 44 then - (t.ln + t.lw) else t.ln + t.lw, 0) := by
  have hl := (List.getElem?_eq_some_iff.1 hk).1
  unfold lenR
  rw [if_neg (by rw [hv]; rintro (h | h); cases h; omega), if_neg (by omega), if_neg (by omega), show ((k : Int) + 1 - 1).toNat = k by omega, hk]
  simp only
  split <;> rfl
theorem radR_bad {l : List To} (d : Int) (hv : validT l = false) : radR l d = (0, 1) := by unfold radR; rw [if_pos hv]
theorem radR_zero {l : List To} (hv : validT l = true) : radR l 0 = (0, 0) := by unfold radR; rw [if_neg (by rw [hv]; decide), if_pos rfl]
theorem radR_out {l : List To} {d : Int} (hv : validT l = true) (h0 : d < 0 ∨ (l.length : Int) < d) : radR l d = (0, 6) := by
  unfold radR
  rw [if_neg (by rw [hv]; decide), if_neg (by omega), if_pos h0]
theorem radR_in {l : List To} {k : Nat} {t : To} (hv : validT l = true) (hk : l[k]? = some t) : radR l ((k : Int) + 1) = (t.rd + t.rw, 0) := by
  have hl := (List.getElem?_eq_some_iff.1 hk).1
  unfold radR
  rw [if_neg (by rw [hv]; decide), if_neg (by omega), if_neg (by omega), show ((k : Int) + 1 - 1).toNat = k by omega, hk]
def offV (r : Int × Int) : Value := .tuple #[.int .i64 r.1, .int .i64 r.2]
set_option maxRecDepth 100000 in
set_option maxHeartbeats 2000000 in
theorem length_any (a : Option Addr) (c : Nat) (l : List To) (code h : Int) (w : World) (ht : TosAt w a l) (hn : l.length ≤ 1073741824) :
    Calls Tryd.prog 21 #[.slice a l.length c, .int .i64 code, .int .i64 h] w fun e w' => e = .returned (offV (lenR l code h)) ∧ Below w.heap.size w w' := by
  obtain ⟨n, hln⟩ : ∃ n, l.length = n := ⟨_, rfl⟩
  have KV := valid_any a c l w ht (by omega)
  have HT := Lib.hid ht
  have HLN := Lib.hid hln
  rw [hln] at KV hn ⊢
  clear ht hln
  cases hv : validT l
  · have R := Lib.hid (lenR_bad code h hv)
    rw [hv] at KV
    have KV := Lib.hid KV
    clear hv
    go_enter Tryd.func21, Tryd.ntmps21
    go_wp2_with fail
    refine KV.out.mono ?_
    rintro e w1 ⟨rfl, b1⟩
    have BEL := Lib.hid b1
    have HT1 := Lib.hid (HT.out.below b1)
    clear b1 KV HT
    go_wp2_with fail
    go_ret2
    exact ⟨by rw [R.out]; rfl, BEL.out⟩
  · rw [hv] at KV
    have KV := Lib.hid KV
    have HV := Lib.hid hv
    clear hv
    have hcs : (code ≠ 43 ∧ code ≠ 44 ∧ code ≠ 49) ∨ code = 49 ∨ code = 43 ∨ code = 44 := by omega
    rcases hcs with hc | rfl | hc
    · have R := Lib.hid (lenR_code (l := l) h hc)
      have q1 : (code != 43) = true := bne_iff_ne.2 hc.1
      have q2 : (code != 44) = true := bne_iff_ne.2 hc.2.1
      have q3 : (code != 49) = true := bne_iff_ne.2 hc.2.2
      clear hc
      go_enter Tryd.func21, Tryd.ntmps21
      go_wp2_with fail
      refine KV.out.mono ?_
      rintro e w1 ⟨rfl, b1⟩
      have BEL := Lib.hid b1
      have HT1 := Lib.hid (HT.out.below b1)
      clear b1 KV HT
      go_wp2_with fail
      go_ret2
      exact ⟨by rw [R.out]; rfl, BEL.out⟩
    · have R := Lib.hid (lenR_zero (l := l) (code := 49) (h := h) HV.out (by omega) (by omega))
      go_enter Tryd.func21, Tryd.ntmps21
      go_wp2_with fail
      refine KV.out.mono ?_
      rintro e w1 ⟨rfl, b1⟩
      have BEL := Lib.hid b1
      have HT1 := Lib.hid (HT.out.below b1)
      clear b1 KV HT
      go_wp2_with fail
      go_ret2
      exact ⟨by rw [R.out]; rfl, BEL.out⟩
    · by_cases h0 : h = 0
      · subst h0
        have R := Lib.hid (lenR_zero (l := l) (code := code) (h := 0) HV.out (by omega) (by omega))
        have dn : decide ((n : Int) < 0) = false := decide_eq_false (by omega)
        rcases hc with rfl | rfl
        all_goals
          go_enter Tryd.func21, Tryd.ntmps21
          go_wp2_with fail
          refine KV.out.mono ?_
          rintro e w1 ⟨rfl, b1⟩
          have BEL := Lib.hid b1
          have HT1 := Lib.hid (HT.out.below b1)
          clear b1 KV HT
          go_wp2_with fail
          go_ret2
          exact ⟨by rw [R.out]; rfl, BEL.out⟩
      · have qh0 : (h == 0) = false := beq_eq_false_iff_ne.2 h0
        by_cases hlo : h < 0
        · have R := Lib.hid (lenR_out (l := l) (code := code) (h := h) HV.out hc (.inl hlo))
          have q1 : decide (h < 0) = true := decide_eq_true hlo
          clear hlo h0
          rcases hc with rfl | rfl
          all_goals
            go_enter Tryd.func21, Tryd.ntmps21
            go_wp2_with fail
            refine KV.out.mono ?_
            rintro e w1 ⟨rfl, b1⟩
            have BEL := Lib.hid b1
            have HT1 := Lib.hid (HT.out.below b1)
            clear b1 KV HT
            go_wp2_with fail
            go_ret2
            exact ⟨by rw [R.out]; rfl, BEL.out⟩
        · have q1 : decide (h < 0) = false := decide_eq_false hlo
          by_cases hhi : (n : Int) < h
          · have R := Lib.hid (lenR_out (l := l) (code := code) (h := h) HV.out hc (.inr (by rw [HLN.out]; exact hhi)))
            have q2 : decide ((n : Int) < h) = true := decide_eq_true hhi
            clear hlo h0 hhi
            rcases hc with rfl | rfl
            all_goals
              go_enter Tryd.func21, Tryd.ntmps21
              go_wp2_with fail
              refine KV.out.mono ?_
              rintro e w1 ⟨rfl, b1⟩
              have BEL := Lib.hid b1
              have HT1 := Lib.hid (HT.out.below b1)
              clear b1 KV HT
              go_wp2_with fail
              go_ret2
              exact ⟨by rw [R.out]; rfl, BEL.out⟩
          · obtain ⟨k, rfl⟩ : ∃ k : Nat, h = (k : Int) + 1 := ⟨(h - 1).toNat, by omega⟩
            have hkn : k < n := by omega
            obtain ⟨t, hkt⟩ : ∃ t, l[k]? = some t := ⟨_, List.getElem?_eq_getElem (by have := HLN.out; omega)⟩
            have q2 : decide ((n : Int) < (k : Int) + 1) = false := decide_eq_false (by omega)
            have q2' : decide (n < k + 1) = false := decide_eq_false (by omega)
            have hgd := ((toGood_iff t).1 ((validT_all HV.out).2 t (List.mem_of_getElem? hkt)))
            have hb : 0 ≤ t.ln + t.lw ∧ t.ln + t.lw ≤ 1048576 := ⟨hgd.2.2.2.2.1, hgd.2.2.2.2.2.1⟩
            have HKT := Lib.hid hkt
            have j0 : (0 : Int) ≤ (k : Int) := by omega
            have j1 : (k : Int) < (n : Int) := by omega
            have i2 : (k : Int) + 1 - 1 = (k : Int) := by omega
            have i4 : IntKind.i64.wrap (k : Int) = (k : Int) := by rw [IntKind.wrap_i64]; omega
            clear hlo h0 hhi hgd hkt
            rcases hc with rfl | rfl
            · have R := Lib.hid (lenR_in (code := 43) HV.out (by omega) HKT.out)
              go_enter Tryd.func21, Tryd.ntmps21
              go_wp2_with fail
              refine KV.out.mono ?_
              rintro e w1 ⟨rfl, b1⟩
              have BEL := Lib.hid b1
              have HT1 := Lib.hid (HT.out.below b1)
              clear b1 KV HT
              obtain ⟨b, o, rfl, _, hcell⟩ := HT1.out k t HKT.out
              have c0 := hcell 0 _ rfl
              have c1 := hcell 1 _ rfl
              simp only [Nat.add_zero] at c0 c1
              clear hcell HT1
              go_wp2_with fail
              go_quiet (fail)
              go_wp2_with fail
              go_ret2
              exact ⟨by rw [R.out]; rfl, below_drewN BEL.out _⟩
            · have R := Lib.hid (lenR_in (code := 44) HV.out (by omega) HKT.out)
              go_enter Tryd.func21, Tryd.ntmps21
              go_wp2_with fail
              refine KV.out.mono ?_
              rintro e w1 ⟨rfl, b1⟩
              have BEL := Lib.hid b1
              have HT1 := Lib.hid (HT.out.below b1)
              clear b1 KV HT
              obtain ⟨b, o, rfl, _, hcell⟩ := HT1.out k t HKT.out
              have c0 := hcell 0 _ rfl
              have c1 := hcell 1 _ rfl
              simp only [Nat.add_zero] at c0 c1
              clear hcell HT1
              go_wp2_with fail
              go_quiet (fail)
              go_wp2_with fail
              go_ret2
              exact ⟨by rw [R.out]; rfl, below_drewN BEL.out _⟩
set_option maxRecDepth 100000 in
set_option maxHeartbeats 2000000 in
theorem rlength_any (a : Option Addr) (c : Nat) (l : List To) (code h : Int) (w : World) (ht : TosAt w a l) (hn : l.length ≤ 1073741824) :
    Calls Tryd.prog 22 #[.slice a l.length c, .int .i64 code, .int .i64 h] w fun e w' => e = .returned (offV (lenR l code h)) ∧ Below w.heap.size w w' := by
  obtain ⟨n, hln⟩ : ∃ n, l.length = n := ⟨_, rfl⟩
  have KV := rvalid_any a c l w ht (by omega)
  have HT := Lib.hid ht
  have HLN := Lib.hid hln
  rw [hln] at KV hn ⊢
  clear ht hln
  cases hv : validT l
  · have R := Lib.hid (lenR_bad code h hv)
    rw [hv] at KV
    have KV := Lib.hid KV
    clear hv
    go_enter Tryd.func22, Tryd.ntmps22
    go_wp2_with fail
    refine KV.out.mono ?_
    rintro e w1 ⟨rfl, b1⟩
    have BEL := Lib.hid b1
    have HT1 := Lib.hid (HT.out.below b1)
    clear b1 KV HT
    go_wp2_with fail
    go_ret2
    exact ⟨by rw [R.out]; rfl, BEL.out⟩
  · rw [hv] at KV
    have KV := Lib.hid KV
    have HV := Lib.hid hv
    clear hv
    have hcs : (code ≠ 43 ∧ code ≠ 44 ∧ code ≠ 49) ∨ code = 49 ∨ code = 43 ∨ code = 44 := by omega
    rcases hcs with hc | rfl | hc
    · have R := Lib.hid (lenR_code (l := l) h hc)
      have q1 : (code != 43) = true := bne_iff_ne.2 hc.1
      have q2 : (code != 44) = true := bne_iff_ne.2 hc.2.1
      have q3 : (code != 49) = true := bne_iff_ne.2 hc.2.2
      clear hc
      go_enter Tryd.func22, Tryd.ntmps22
      go_wp2_with fail
      refine KV.out.mono ?_
      rintro e w1 ⟨rfl, b1⟩
      have BEL := Lib.hid b1
      have HT1 := Lib.hid (HT.out.below b1)
      clear b1 KV HT
      go_wp2_with fail
      go_ret2
      exact ⟨by rw [R.out]; rfl, BEL.out⟩
    · have R := Lib.hid (lenR_zero (l := l) (code := 49) (h := h) HV.out (by omega) (by omega))
      go_enter Tryd.func22, Tryd.ntmps22
      go_wp2_with fail
      refine KV.out.mono ?_
      rintro e w1 ⟨rfl, b1⟩
      have BEL := Lib.hid b1
      have HT1 := Lib.hid (HT.out.below b1)
      clear b1 KV HT
      go_wp2_with fail
      go_ret2
      exact ⟨by rw [R.out]; rfl, BEL.out⟩
    · by_cases h0 : h = 0
      · subst h0
        have R := Lib.hid (lenR_zero (l := l) (code := code) (h := 0) HV.out (by omega) (by omega))
        have dn : decide ((n : Int) < 0) = false := decide_eq_false (by omega)
        rcases hc with rfl | rfl
        all_goals
          go_enter Tryd.func22, Tryd.ntmps22
          go_wp2_with fail
          refine KV.out.mono ?_
          rintro e w1 ⟨rfl, b1⟩
          have BEL := Lib.hid b1
          have HT1 := Lib.hid (HT.out.below b1)
          clear b1 KV HT
          go_wp2_with fail
          go_ret2
          exact ⟨by rw [R.out]; rfl, BEL.out⟩
      · have qh0 : (h == 0) = false := beq_eq_false_iff_ne.2 h0
        by_cases hlo : h < 0
        · have R := Lib.hid (lenR_out (l := l) (code := code) (h := h) HV.out hc (.inl hlo))
          have q1 : decide (h < 0) = true := decide_eq_true hlo
          clear hlo h0
          rcases hc with rfl | rfl
          all_goals
            go_enter Tryd.func22, Tryd.ntmps22
            go_wp2_with fail
            refine KV.out.mono ?_
            rintro e w1 ⟨rfl, b1⟩
            have BEL := Lib.hid b1
            have HT1 := Lib.hid (HT.out.below b1)
            clear b1 KV HT
            go_wp2_with fail
            go_ret2
            exact ⟨by rw [R.out]; rfl, BEL.out⟩
        · have q1 : decide (h < 0) = false := decide_eq_false hlo
          by_cases hhi : (n : Int) < h
          · have R := Lib.hid (lenR_out (l := l) (code := code) (h := h) HV.out hc (.inr (by rw [HLN.out]; exact hhi)))
            have q2 : decide ((n : Int) < h) = true := decide_eq_true hhi
            clear hlo h0 hhi
            rcases hc with rfl | rfl
            all_goals
              go_enter Tryd.func22, Tryd.ntmps22
              go_wp2_with fail
              refine KV.out.mono ?_
              rintro e w1 ⟨rfl, b1⟩
              have BEL := Lib.hid b1
              have HT1 := Lib.hid (HT.out.below b1)
              clear b1 KV HT
              go_wp2_with fail
              go_ret2
              exact ⟨by rw [R.out]; rfl, BEL.out⟩
          · obtain ⟨k, rfl⟩ : ∃ k : Nat, h = (k : Int) + 1 := ⟨(h - 1).toNat, by omega⟩
            have hkn : k < n := by omega
            obtain ⟨t, hkt⟩ : ∃ t, l[k]? = some t := ⟨_, List.getElem?_eq_getElem (by have := HLN.out; omega)⟩
            have q2 : decide ((n : Int) < (k : Int) + 1) = false := decide_eq_false (by omega)
            have q2' : decide (n < k + 1) = false := decide_eq_false (by omega)
            have hgd := ((toGood_iff t).1 ((validT_all HV.out).2 t (List.mem_of_getElem? hkt)))
            have hb : 0 ≤ t.ln + t.lw ∧ t.ln + t.lw ≤ 1048576 := ⟨hgd.2.2.2.2.1, hgd.2.2.2.2.2.1⟩
            have HKT := Lib.hid hkt
            have j0 : (0 : Int) ≤ (k : Int) := by omega
            have j1 : (k : Int) < (n : Int) := by omega
            have i2 : (k : Int) + 1 - 1 = (k : Int) := by omega
            have i4 : IntKind.i64.wrap (k : Int) = (k : Int) := by rw [IntKind.wrap_i64]; omega
            clear hlo h0 hhi hgd hkt
            rcases hc with rfl | rfl
            · have R := Lib.hid (lenR_in (code := 43) HV.out (by omega) HKT.out)
              go_enter Tryd.func22, Tryd.ntmps22
              go_wp2_with fail
              refine KV.out.mono ?_
              rintro e w1 ⟨rfl, b1⟩
              have BEL := Lib.hid b1
              have HT1 := Lib.hid (HT.out.below b1)
              clear b1 KV HT
              obtain ⟨b, o, rfl, _, hcell⟩ := HT1.out k t HKT.out
              have c0 := hcell 0 _ rfl
              have c1 := hcell 1 _ rfl
              simp only [Nat.add_zero] at c0 c1
              clear hcell HT1
              go_wp2_with fail
              go_quiet (fail)
              go_wp2_with fail
              go_ret2
              exact ⟨by rw [R.out]; rfl, below_drewN BEL.out _⟩
            · have R := Lib.hid (lenR_in (code := 44) HV.out (by omega) HKT.out)
              go_enter Tryd.func22, Tryd.ntmps22
              go_wp2_with fail
              refine KV.out.mono ?_
              rintro e w1 ⟨rfl, b1⟩
              have BEL := Lib.hid b1
              have HT1 := Lib.hid (HT.out.below b1)
              clear b1 KV HT
              obtain ⟨b, o, rfl, _, hcell⟩ := HT1.out k t HKT.out
              have c0 := hcell 0 _ rfl
              have c1 := hcell 1 _ rfl
              simp only [Nat.add_zero] at c0 c1
              clear hcell HT1
              go_wp2_with fail
              go_quiet (fail)
              go_wp2_with fail
              go_ret2
              exact ⟨by rw [R.out]; rfl, below_drewN BEL.out _⟩
set_option maxRecDepth 100000 in
set_option maxHeartbeats 2000000 in
theorem radius_any (a : Option Addr) (c : Nat) (l : List To) (h : Int) (w : World) (ht : TosAt w a l) (hn : l.length ≤ 1073741824) :
    Calls Tryd.prog 23 #[.slice a l.length c, .int .i64 h] w fun e w' => e = .returned (offV (radR l h)) ∧ Below w.heap.size w w' := by
  obtain ⟨n, hln⟩ : ∃ n, l.length = n := ⟨_, rfl⟩
  have KV := valid_any a c l w ht (by omega)
  have HT := Lib.hid ht
  have HLN := Lib.hid hln
  rw [hln] at KV hn ⊢
  clear ht hln
  cases hv : validT l
  · have R := Lib.hid (radR_bad h hv)
    rw [hv] at KV
    have KV := Lib.hid KV
    clear hv
    go_enter Tryd.func23, Tryd.ntmps23
    go_wp2_with fail
    refine KV.out.mono ?_
    rintro e w1 ⟨rfl, b1⟩
    have BEL := Lib.hid b1
    have HT1 := Lib.hid (HT.out.below b1)
    clear b1 KV HT
    go_wp2_with fail
    go_ret2
    exact ⟨by rw [R.out]; rfl, BEL.out⟩
  · rw [hv] at KV
    have KV := Lib.hid KV
    have HV := Lib.hid hv
    clear hv
    by_cases h0 : h = 0
    · subst h0
      have R := Lib.hid (radR_zero (l := l) HV.out)
      have dn : decide ((n : Int) < 0) = false := decide_eq_false (by omega)
      go_enter Tryd.func23, Tryd.ntmps23
      go_wp2_with fail
      refine KV.out.mono ?_
      rintro e w1 ⟨rfl, b1⟩
      have BEL := Lib.hid b1
      have HT1 := Lib.hid (HT.out.below b1)
      clear b1 KV HT
      go_wp2_with fail
      go_ret2
      exact ⟨by rw [R.out]; rfl, BEL.out⟩
    · have qh0 : (h == 0) = false := beq_eq_false_iff_ne.2 h0
      by_cases hlo : h < 0
      · have R := Lib.hid (radR_out (l := l) (d := h) HV.out (.inl hlo))
        have q1 : decide (h < 0) = true := decide_eq_true hlo
        clear hlo h0
        go_enter Tryd.func23, Tryd.ntmps23
        go_wp2_with fail
        refine KV.out.mono ?_
        rintro e w1 ⟨rfl, b1⟩
        have BEL := Lib.hid b1
        have HT1 := Lib.hid (HT.out.below b1)
        clear b1 KV HT
        go_wp2_with fail
        go_ret2
        exact ⟨by rw [R.out]; rfl, BEL.out⟩
      · have q1 : decide (h < 0) = false := decide_eq_false hlo
        by_cases hhi : (n : Int) < h
        · have R := Lib.hid (radR_out (l := l) (d := h) HV.out (.inr (by rw [HLN.out]; exact hhi)))
          have q2 : decide ((n : Int) < h) = true := decide_eq_true hhi
          clear hlo h0 hhi
          go_enter Tryd.func23, Tryd.ntmps23
          go_wp2_with fail
          refine KV.out.mono ?_
          rintro e w1 ⟨rfl, b1⟩
          have BEL := Lib.hid b1
          have HT1 := Lib.hid (HT.out.below b1)
          clear b1 KV HT
          go_wp2_with fail
          go_ret2
          exact ⟨by rw [R.out]; rfl, BEL.out⟩
        · obtain ⟨k, rfl⟩ : ∃ k : Nat, h = (k : Int) + 1 := ⟨(h - 1).toNat, by omega⟩
          have hkn : k < n := by omega
          obtain ⟨t, hkt⟩ : ∃ t, l[k]? = some t := ⟨_, List.getElem?_eq_getElem (by have := HLN.out; omega)⟩
          have q2 : decide ((n : Int) < (k : Int) + 1) = false := decide_eq_false (by omega)
          have q2' : decide (n < k + 1) = false := decide_eq_false (by omega)
          have hgd := ((toGood_iff t).1 ((validT_all HV.out).2 t (List.mem_of_getElem? hkt)))
          have hb : 0 ≤ t.rd + t.rw ∧ t.rd + t.rw ≤ 32768 := ⟨hgd.2.2.2.2.2.2.1, hgd.2.2.2.2.2.2.2⟩
          have HKT := Lib.hid hkt
          have j0 : (0 : Int) ≤ (k : Int) := by omega
          have j1 : (k : Int) < (n : Int) := by omega
          have i2 : (k : Int) + 1 - 1 = (k : Int) := by omega
          have i4 : IntKind.i64.wrap (k : Int) = (k : Int) := by rw [IntKind.wrap_i64]; omega
          have R := Lib.hid (radR_in HV.out HKT.out)
          clear hlo h0 hhi hgd hkt
          go_enter Tryd.func23, Tryd.ntmps23
          go_wp2_with fail
          refine KV.out.mono ?_
          rintro e w1 ⟨rfl, b1⟩
          have BEL := Lib.hid b1
          have HT1 := Lib.hid (HT.out.below b1)
          clear b1 KV HT
          obtain ⟨b, o, rfl, _, hcell⟩ := HT1.out k t HKT.out
          have c2 := hcell 2 _ rfl
          have c3 := hcell 3 _ rfl
          clear hcell HT1
          go_wp2_with fail
          go_quiet (fail)
          go_wp2_with fail
          go_ret2
          exact ⟨by rw [R.out]; rfl, below_drewN BEL.out _⟩
set_option maxRecDepth 100000 in
set_option maxHeartbeats 2000000 in
theorem rradius_any (a : Option Addr) (c : Nat) (l : List To) (h : Int) (w : World) (ht : TosAt w a l) (hn : l.length ≤ 1073741824) :
    Calls Tryd.prog 24 #[.slice a l.length c, .int .i64 h] w fun e w' => e = .returned (offV (radR l h)) ∧ Below w.heap.size w w' := by
  obtain ⟨n, hln⟩ : ∃ n, l.length = n := ⟨_, rfl⟩
  have KV := rvalid_any a c l w ht (by omega)
  have HT := Lib.hid ht
  have HLN := Lib.hid hln
  rw [hln] at KV hn ⊢
  clear ht hln
  cases hv : validT l
  · have R := Lib.hid (radR_bad h hv)
    rw [hv] at KV
    have KV := Lib.hid KV
    clear hv
    go_enter Tryd.func24, Tryd.ntmps24
    go_wp2_with fail
    refine KV.out.mono ?_
    rintro e w1 ⟨rfl, b1⟩
    have BEL := Lib.hid b1
    have HT1 := Lib.hid (HT.out.below b1)
    clear b1 KV HT
    go_wp2_with fail
    go_ret2
    exact ⟨by rw [R.out]; rfl, BEL.out⟩
  · rw [hv] at KV
    have KV := Lib.hid KV
    have HV := Lib.hid hv
    clear hv
    by_cases h0 : h = 0
    · subst h0
      have R := Lib.hid (radR_zero (l := l) HV.out)
      have dn : decide ((n : Int) < 0) = false := decide_eq_false (by omega)
      go_enter Tryd.func24, Tryd.ntmps24
      go_wp2_with fail
      refine KV.out.mono ?_
      rintro e w1 ⟨rfl, b1⟩
      have BEL := Lib.hid b1
      have HT1 := Lib.hid (HT.out.below b1)
      clear b1 KV HT
      go_wp2_with fail
      go_ret2
      exact ⟨by rw [R.out]; rfl, BEL.out⟩
    · have qh0 : (h == 0) = false := beq_eq_false_iff_ne.2 h0
      by_cases hlo : h < 0
      · have R := Lib.hid (radR_out (l := l) (d := h) HV.out (.inl hlo))
        have q1 : decide (h < 0) = true := decide_eq_true hlo
        clear hlo h0
        go_enter Tryd.func24, Tryd.ntmps24
        go_wp2_with fail
        refine KV.out.mono ?_
        rintro e w1 ⟨rfl, b1⟩
        have BEL := Lib.hid b1
        have HT1 := Lib.hid (HT.out.below b1)
        clear b1 KV HT
        go_wp2_with fail
        go_ret2
        exact ⟨by rw [R.out]; rfl, BEL.out⟩
      · have q1 : decide (h < 0) = false := decide_eq_false hlo
        by_cases hhi : (n : Int) < h
        · have R := Lib.hid (radR_out (l := l) (d := h) HV.out (.inr (by rw [HLN.out]; exact hhi)))
          have q2 : decide ((n : Int) < h) = true := decide_eq_true hhi
          clear hlo h0 hhi
          go_enter Tryd.func24, Tryd.ntmps24
          go_wp2_with fail
          refine KV.out.mono ?_
          rintro e w1 ⟨rfl, b1⟩
          have BEL := Lib.hid b1
          have HT1 := Lib.hid (HT.out.below b1)
          clear b1 KV HT
          go_wp2_with fail
          go_ret2
          exact ⟨by rw [R.out]; rfl, BEL.out⟩
        · obtain ⟨k, rfl⟩ : ∃ k : Nat, h = (k : Int) + 1 := ⟨(h - 1).toNat, by omega⟩
          have hkn : k < n := by omega
          obtain ⟨t, hkt⟩ : ∃ t, l[k]? = some t := ⟨_, List.getElem?_eq_getElem (by have := HLN.out; omega)⟩
          have q2 : decide ((n : Int) < (k : Int) + 1) = false := decide_eq_false (by omega)
          have q2' : decide (n < k + 1) = false := decide_eq_false (by omega)
          have hgd := ((toGood_iff t).1 ((validT_all HV.out).2 t (List.mem_of_getElem? hkt)))
          have hb : 0 ≤ t.rd + t.rw ∧ t.rd + t.rw ≤ 32768 := ⟨hgd.2.2.2.2.2.2.1, hgd.2.2.2.2.2.2.2⟩
          have HKT := Lib.hid hkt
          have j0 : (0 : Int) ≤ (k : Int) := by omega
          have j1 : (k : Int) < (n : Int) := by omega
          have i2 : (k : Int) + 1 - 1 = (k : Int) := by omega
          have i4 : IntKind.i64.wrap (k : Int) = (k : Int) := by rw [IntKind.wrap_i64]; omega
          have R := Lib.hid (radR_in HV.out HKT.out)
          clear hlo h0 hhi hgd hkt
          go_enter Tryd.func24, Tryd.ntmps24
          go_wp2_with fail
          refine KV.out.mono ?_
          rintro e w1 ⟨rfl, b1⟩
          have BEL := Lib.hid b1
          have HT1 := Lib.hid (HT.out.below b1)
          clear b1 KV HT
          obtain ⟨b, o, rfl, _, hcell⟩ := HT1.out k t HKT.out
          have c2 := hcell 2 _ rfl
          have c3 := hcell 3 _ rfl
          clear hcell HT1
          go_wp2_with fail
          go_quiet (fail)
          go_wp2_with fail
          go_ret2
          exact ⟨by rw [R.out]; rfl, below_drewN BEL.out _⟩
end Go.Proofs.YtlpmbjgimllmgaaDoor
