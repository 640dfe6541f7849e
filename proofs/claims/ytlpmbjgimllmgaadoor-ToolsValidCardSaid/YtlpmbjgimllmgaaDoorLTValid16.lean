/-
  ToolsValid returns true. Its arguments: any.
-/
import Derived.Test.YtlpmbjgimllmgaaDoorAwake16
import Derived.Test.YtlpmbjgimllmgaaDoorRFormat16
namespace Go.Proofs.YtlpmbjgimllmgaaDoor
open Go Go.RowKit
set_option linter.unusedVariables false

theorem tosC_set : ∀ (l : List To) (i j : Nat) (t t' : To) (u : Value), l[i]? = some t → j < 4 → (toC t).set j u = toC t' → (tosC l).set (i * 4 + j) u = tosC (l.set i t')
  | [], i, j, t, t', u, h, _, _ => by simp at h
  | x :: l, 0, j, t, t', u, h, hj, he => by
    simp at h
    subst h
    rw [tosC, List.flatMap_cons, List.set_append_left _ _ (by show _ < 4; omega), Nat.zero_mul, Nat.zero_add, he]
    rfl
  | x :: l, i + 1, j, t, t', u, h, hj, he => by
    simp only [List.getElem?_cons_succ] at h
    rw [tosC, List.flatMap_cons, List.set_append_right _ _ (by show 4 ≤ _; omega), ← tosC]
    show toC x ++ (tosC l).set ((i + 1) * 4 + j - 4) u = _
    rw [show (i + 1) * 4 + j - 4 = i * 4 + j by omega, tosC_set l i j t t' u h hj he]
    rfl
/-- One field of a tool written. -/
def toPut (t : To) (j : Nat) (v : Int) : To := match j with | 0 => { t with ln := v } | 1 => { t with lw := v } | 2 => { t with rd := v } | _ => { t with rw := v }
theorem toPut_C (t : To) (j : Nat) (hj : j < 4) (v : Int) : (toC t).set j (.int .i64 v) = toC (toPut t j v) := by
  have h : j = 0 ∨ j = 1 ∨ j = 2 ∨ j = 3 := by omega
  rcases h with rfl | rfl | rfl | rfl <;> rfl
theorem to_stored {W : World} {base g cap i j : Nat} {l : List To} {t : To} (h : W.ownsRow base 29 4 (.slice (some ⟨g, 0, none⟩) l.length cap) l.length (tosC l)) (hi : l[i]? = some t) (hj : j < 4) (v : Int) :
    TosAt (W.setCell ⟨g, i * 4 + j, none⟩ (.int .i64 v)) (some ⟨g, 0, none⟩) (l.set i (toPut t j v)) := by
  have h2 := (h.stored (i * 4 + j) (.int .i64 v)).1
  rw [tosC_set l i j t (toPut t j v) _ hi hj (toPut_C t j hj v)] at h2
  have e : l.length = (l.set i (toPut t j v)).length := by simp
  rw [e] at h2
  obtain ⟨a, c, ea, hat, _⟩ := tos_own h2
  injection ea with e1 e2 e3
  rw [← e1] at hat
  exact hat
set_option maxRecDepth 100000 in
set_option maxHeartbeats 8000000 in
theorem ltvalid_walk (a0 : Option Addr) (len0 cap0 : Nat) (a1 : Option Addr) (len1 cap1 : Nat) (z1 : List Int) (pl wh y : Int) (w : World) (hE : Env w) (h0 : Leaf w (.tab toolKs) (.slice a0 len0 cap0)) (hr : IsRow .i64 w a1 len1 cap1 z1) : Calls Tryd.prog 3 #[.slice a0 len0 cap0, .slice a1 len1 cap1, .int .i64 pl, .int .i64 wh, .int .i64 y] w fun e w' => e = .returned (.bool true) ∧ Below w.heap.size w w' := by
  have KLI := light_any w a1 len1 cap1
  have HE0 := Lib.hid hE
  have HR := Lib.hid hr
  have hlow := hE.low
  have hmost := hr.most
  obtain ⟨raw, hrl, hraw, hr63⟩ := tos_tab h0
  have HRAW := Lib.hid hraw
  have HRL := Lib.hid hrl
  have KA0 := Lib.hid (awake_true w HE0.out)
  clear hE hr h0 hraw hrl
  by_cases h50 : 50 < len0
  · have d1 : decide (50 < len0) = true := decide_eq_true h50
    have d1' : decide (50 < (len0 : Int)) = true := decide_eq_true (by omega)
    go_enter Tryd.func3, Tryd.ntmps3
    go_wp2_with fail
    refine KA0.out.mono ?_
    rintro e w1 ⟨rfl, b1⟩
    go_wp2_with fail
    go_ret
    exact ⟨rfl, b1⟩
  have d0 : decide (50 < len0) = false := decide_eq_false h50
  have d0' : decide (50 < (len0 : Int)) = false := decide_eq_false (by omega)
  by_cases h120 : len1 ≤ 120
  · rw [decide_eq_true h120] at KLI
    have KLI := Lib.hid KLI
    have hlen50 : len0 ≤ 50 := by omega
    clear h50 KA0
    have KT := Lib.hid (table_any w a1 len1 cap1 z1 HR.out (by omega))
    go_enter Tryd.func3, Tryd.ntmps3
    go_wp2_with fail
    refine KLI.out.mono ?_
    rintro e w' ⟨rfl, rfl⟩
    clear KLI
    go_wp2_with fail
    refine KT.out.mono ?_
    rintro e w2 ⟨v, E, rfl, hvE, hlenE, hownE, b2⟩
    obtain ⟨a2, c2, rfl, hatE, _⟩ := tos_own hownE
    have sz2 := b2.size
    have BELa := Lib.hid b2
    have HVE := Lib.hid hvE
    have HAa := Lib.hid hatE
    obtain ⟨m, hm⟩ : ∃ m, E.length = m := ⟨_, rfl⟩
    have HLE := Lib.hid hm
    have hm5 : m ≤ 5 := by omega
    have KT2 := Lib.hid (table_any w2 a1 len1 cap1 z1 (HR.out.below BELa.out) (by omega))
    rw [hm]
    clear KT hownE b2 hvE hlenE hatE hm
    go_wp2_with fail
    refine KT2.out.mono ?_
    rintro e w3 ⟨v, F, rfl, hvF, hlenF, hownF, b3⟩
    have sz3 := b3.size
    have BELb := Lib.hid (BELa.out.trans (b3.mono sz2))
    have HAb := Lib.hid (HAa.out.below b3)
    have HA2 := HAa
    obtain ⟨n, hn⟩ : ∃ n, F.length = n := ⟨_, rfl⟩
    have HNF := Lib.hid hn
    have hn5 : n ≤ 5 := by omega
    have B3 := Lib.hid b3
    clear KT2 BELa hvF hlenF b3 HAa
    rcases Nat.eq_zero_or_pos n with hn0 | hn0
    · obtain ⟨a5, c5, rfl, hatF, _⟩ := tos_own hownF
      have e0 : decide (0 < n) = false := decide_eq_false (by omega)
      have e0' : decide (0 < (n : Int)) = false := decide_eq_false (by omega)
      have HBb := Lib.hid hatF
      rw [hn]
      obtain ⟨F', hF'⟩ : ∃ F', F = F' := ⟨_, rfl⟩
      have HLF := Lib.hid (by rw [← hF']; exact hn : F'.length = n)
      have HB0 : Hid (TosAt w3 a5 F') := by rw [← hF']; exact HBb
      have BEL0 := BELb
      have HA0 := HAb
      clear hF' hownF hatF hn hn0 HBb BELb HAb
      have KA := awake_true w3 (HE0.out.below BEL0.out hlow)
      have KA := Lib.hid KA
      have szb0 := BEL0.out.size
      go_wp2_with fail
      refine KA.out.mono ?_
      rintro e v1 ⟨rfl, b1⟩
      have BEL1 := Lib.hid (BEL0.out.trans (b1.mono szb0))
      have HA1 := Lib.hid (HA0.out.below b1)
      have HB1 := Lib.hid (HB0.out.below b1)
      clear b1 KA BEL0 HB0 szb0 HA0
      have Kvr := valid_any a0 cap0 raw v1 (HRAW.out.below BEL1.out) (by have := HRL.out; omega)
      rw [HRL.out] at Kvr
      have Kvr := Lib.hid Kvr
      have szb1 := BEL1.out.size
      go_wp2_with fail
      refine Kvr.out.mono ?_
      rintro e v2 ⟨rfl, b2⟩
      have BEL2 := Lib.hid (BEL1.out.trans (b2.mono szb1))
      have HA2 := Lib.hid (HA1.out.below b2)
      have HB2 := Lib.hid (HB1.out.below b2)
      clear b2 Kvr BEL1 HB1 szb1 HA1
      have Krvr := rvalid_any a0 cap0 raw v2 (HRAW.out.below BEL2.out) (by have := HRL.out; omega)
      rw [HRL.out] at Krvr
      have Krvr := Lib.hid Krvr
      have qrvr : (validT raw == validT raw) = true := by simp
      have szb2 := BEL2.out.size
      go_wp2_with fail
      refine Krvr.out.mono ?_
      rintro e v3 ⟨rfl, b3⟩
      have BEL3 := Lib.hid (BEL2.out.trans (b3.mono szb2))
      have HA3 := Lib.hid (HA2.out.below b3)
      have HB3 := Lib.hid (HB2.out.below b3)
      clear b3 Krvr BEL2 HB2 szb2 HA2
      have Kfr := format_any a0 cap0 raw v3 (HRAW.out.below BEL3.out) (by have := HRL.out; omega) (HE0.out.below BEL3.out hlow)
      rw [HRL.out] at Kfr
      have Kfr := Lib.hid Kfr
      have szb3 := BEL3.out.size
      go_wp2_with fail
      refine Kfr.out.mono ?_
      rintro e v4 ⟨rfl, b4⟩
      have BEL4 := Lib.hid (BEL3.out.trans (b4.mono szb3))
      have HA4 := Lib.hid (HA3.out.below b4)
      have HB4 := Lib.hid (HB3.out.below b4)
      clear b4 Kfr BEL3 HB3 szb3 HA3
      have Krfr := rformat_any a0 cap0 raw v4 (HRAW.out.below BEL4.out) (by have := HRL.out; omega)
      rw [HRL.out] at Krfr
      have Krfr := Lib.hid Krfr
      have qrfr : ((mkB (formatT raw)).toList == (mkB (formatT raw)).toList) = true := by simp
      have szb4 := BEL4.out.size
      go_wp2_with fail
      refine Krfr.out.mono ?_
      rintro e v5 ⟨rfl, b5⟩
      have BEL5 := Lib.hid (BEL4.out.trans (b5.mono szb4))
      have HA5 := Lib.hid (HA4.out.below b5)
      have HB5 := Lib.hid (HB4.out.below b5)
      clear b5 Krfr BEL4 HB4 szb4 HA4
      have Kva := valid_any a2 c2 E v5 HA5.out (by have := HLE.out; omega)
      rw [HLE.out] at Kva
      rw [HVE.out] at Kva
      have Kva := Lib.hid Kva
      have szb5 := BEL5.out.size
      go_wp2_with fail
      refine Kva.out.mono ?_
      rintro e v6 ⟨rfl, b6⟩
      have BEL6 := Lib.hid (BEL5.out.trans (b6.mono szb5))
      have HA6 := Lib.hid (HA5.out.below b6)
      have HB6 := Lib.hid (HB5.out.below b6)
      clear b6 Kva BEL5 HB5 szb5 HA5
      have Kfa := format_any a2 c2 E v6 HA6.out (by have := HLE.out; omega) (HE0.out.below BEL6.out hlow)
      rw [HLE.out] at Kfa
      have Kfa := Lib.hid Kfa
      have szb6 := BEL6.out.size
      go_wp2_with fail
      refine Kfa.out.mono ?_
      rintro e v7 ⟨rfl, b7⟩
      have BEL7 := Lib.hid (BEL6.out.trans (b7.mono szb6))
      have HA7 := Lib.hid (HA6.out.below b7)
      have HB7 := Lib.hid (HB6.out.below b7)
      clear b7 Kfa BEL6 HB6 szb6 HA6
      have Krfa := rformat_any a2 c2 E v7 HA7.out (by have := HLE.out; omega)
      rw [HLE.out] at Krfa
      have Krfa := Lib.hid Krfa
      have qrfa : ((mkB (formatT E)).toList == (mkB (formatT E)).toList) = true := by simp
      have szb7 := BEL7.out.size
      go_wp2_with fail
      refine Krfa.out.mono ?_
      rintro e v8 ⟨rfl, b8⟩
      have BEL8 := Lib.hid (BEL7.out.trans (b8.mono szb7))
      have HA8 := Lib.hid (HA7.out.below b8)
      have HB8 := Lib.hid (HB7.out.below b8)
      clear b8 Krfa BEL7 HB7 szb7 HA7
      have Kvb := valid_any a5 c5 F' v8 HB8.out (by have := HLF.out; omega)
      rw [HLF.out] at Kvb
      have Kvb := Lib.hid Kvb
      have szb8 := BEL8.out.size
      go_wp2_with fail
      refine Kvb.out.mono ?_
      rintro e v9 ⟨rfl, b9⟩
      have BEL9 := Lib.hid (BEL8.out.trans (b9.mono szb8))
      have HB9 := Lib.hid (HB8.out.below b9)
      clear b9 Kvb BEL8 HB8 szb8
      have Krvb := rvalid_any a5 c5 F' v9 HB9.out (by have := HLF.out; omega)
      rw [HLF.out] at Krvb
      have Krvb := Lib.hid Krvb
      have qrvb : (validT F' == validT F') = true := by simp
      have szb9 := BEL9.out.size
      go_wp2_with fail
      refine Krvb.out.mono ?_
      rintro e v10 ⟨rfl, b10⟩
      have BEL10 := Lib.hid (BEL9.out.trans (b10.mono szb9))
      have HB10 := Lib.hid (HB9.out.below b10)
      clear b10 Krvb BEL9 HB9 szb9
      have Kfb := format_any a5 c5 F' v10 HB10.out (by have := HLF.out; omega) (HE0.out.below BEL10.out hlow)
      rw [HLF.out] at Kfb
      have Kfb := Lib.hid Kfb
      have szb10 := BEL10.out.size
      go_wp2_with fail
      refine Kfb.out.mono ?_
      rintro e v11 ⟨rfl, b11⟩
      have BEL11 := Lib.hid (BEL10.out.trans (b11.mono szb10))
      have HB11 := Lib.hid (HB10.out.below b11)
      clear b11 Kfb BEL10 HB10 szb10
      have Krfb := rformat_any a5 c5 F' v11 HB11.out (by have := HLF.out; omega)
      rw [HLF.out] at Krfb
      have Krfb := Lib.hid Krfb
      have qrfb : ((mkB (formatT F')).toList == (mkB (formatT F')).toList) = true := by simp
      have szb11 := BEL11.out.size
      go_wp2_with fail
      refine Krfb.out.mono ?_
      rintro e v12 ⟨rfl, b12⟩
      have BEL12 := Lib.hid (BEL11.out.trans (b12.mono szb11))
      have HB12 := Lib.hid (HB11.out.below b12)
      clear b12 Krfb BEL11 HB11 szb11
      go_wp2_with fail
      go_ret
      exact ⟨rfl, BEL12.out⟩
    · have e0 : decide (0 < n) = true := decide_eq_true (by omega)
      have e0' : decide (0 < (n : Int)) = true := decide_eq_true (by omega)
      obtain ⟨r, hrr⟩ : ∃ r, pl % (n : Int) = r := ⟨_, rfl⟩
      have hr0 := Int.emod_nonneg pl (show (n : Int) ≠ 0 by omega)
      have hr1 := Int.emod_lt_of_pos pl (show (0 : Int) < (n : Int) by omega)
      rw [hrr] at hr0 hr1
      obtain ⟨k, rfl⟩ := Int.eq_ofNat_of_zero_le hr0
      have hkn : k < n := by omega
      have KM := fun W => mod_any pl n W (by omega) (by omega)
      rw [hrr] at KM
      have KM := Lib.hid KM
      obtain ⟨q, hq⟩ : ∃ r, wh % 5 = r := ⟨_, rfl⟩
      have hq0 := Int.emod_nonneg wh (show (5 : Int) ≠ 0 by omega)
      have hq1 := Int.emod_lt_of_pos wh (show (0 : Int) < (5 : Int) by omega)
      rw [hq] at hq0 hq1
      have KM5 := fun W => mod_any wh 5 W (by omega) (by omega)
      rw [hq] at KM5
      have KM5 := Lib.hid KM5
      obtain ⟨t, ht⟩ : ∃ t, F[k]? = some t := ⟨_, List.getElem?_eq_getElem (by omega)⟩
      have hqq : q = 0 ∨ q = 1 ∨ q = 2 ∨ q = 3 ∨ q = 4 := by omega
      have hform : ∃ g5 c5, v = .slice (some ⟨g5, 0, none⟩) F.length c5 ∧ w2.heap.size ≤ g5 := by
        rcases hownF.2 with ⟨_, h2⟩ | ⟨g, cap, cur, h1, hb, _⟩
        · omega
        · exact ⟨g, cap, h1, hb⟩
      obtain ⟨g5, c5, rfl, hg5⟩ := hform
      have HT := Lib.hid ht
      have f0 : w3.frozen? ⟨g5, k * 4, none⟩ = false := hownF.frozenAt _
      have f1 : w3.frozen? ⟨g5, k * 4 + 1, none⟩ = false := hownF.frozenAt _
      have f2 : w3.frozen? ⟨g5, k * 4 + 2, none⟩ = false := hownF.frozenAt _
      have f3 : w3.frozen? ⟨g5, k * 4 + 3, none⟩ = false := hownF.frozenAt _
      have x0 : w3.cell? ⟨g5, k * 4, none⟩ = some (.int .i64 t.ln) := (by rw [hownF.cellAt _ (by omega)]; exact tosC_at F k 0 t ht (by omega))
      have x1 : w3.cell? ⟨g5, k * 4 + 1, none⟩ = some (.int .i64 t.lw) := (by rw [hownF.cellAt _ (by omega)]; exact tosC_at F k 1 t ht (by omega))
      have x2 : w3.cell? ⟨g5, k * 4 + 2, none⟩ = some (.int .i64 t.rd) := (by rw [hownF.cellAt _ (by omega)]; exact tosC_at F k 2 t ht (by omega))
      have x3 : w3.cell? ⟨g5, k * 4 + 3, none⟩ = some (.int .i64 t.rw) := (by rw [hownF.cellAt _ (by omega)]; exact tosC_at F k 3 t ht (by omega))
      have szs : ∀ (j : Nat) u, (w3.setCell ⟨g5, k * 4 + j, none⟩ u).heap.size = w3.heap.size := fun j u => by simp [World.setCell]
      have BS := Lib.hid (fun j u => BELb.out.setCell (p := ⟨g5, k * 4 + j, none⟩) (by show w.heap.size ≤ g5; omega) u)
      have GS := Lib.hid (fun j u => HA2.out.below (B3.out.setCell (p := ⟨g5, k * 4 + j, none⟩) (by show w2.heap.size ≤ g5; omega) u))
      have ES := Lib.hid (fun j (hj : j < 4) (yv : Int) => to_stored hownF ht hj yv)
      have SZ := Lib.hid szs
      have j0 : (0 : Int) ≤ (k : Int) := by omega
      have j1 : (k : Int) < (n : Int) := by omega
      rw [hn]
      clear szs hownF ht hn hq hrr hq0 hq1 hn0 BELb HAb B3
      go_wp2_with fail
      refine (KM.out w3).mono ?_
      rintro e w6 ⟨rfl, rfl⟩
      go_wp2_with fail
      refine (KM5.out w3).mono ?_
      rintro e w6 ⟨rfl, rfl⟩
      clear KM KM5
      rcases hqq with rfl | rfl | rfl | rfl | rfl
      · skip
        have szW : (w3.setCell ⟨g5, k * 4, none⟩ (.int .i64 y)).heap.size = w3.heap.size := SZ.out 0 _
        have BEL0 := Lib.hid (BS.out 0 (.int .i64 y) : Below w.heap.size w (w3.setCell ⟨g5, k * 4, none⟩ (.int .i64 y)))
        have HA0 := Lib.hid (GS.out 0 (.int .i64 y) : TosAt (w3.setCell ⟨g5, k * 4, none⟩ (.int .i64 y)) a2 E)
        obtain ⟨F', hF'⟩ : ∃ F', F.set k (toPut t 0 y) = F' := ⟨_, rfl⟩
        have HLF := Lib.hid (by rw [← hF', List.length_set]; exact HNF.out : F'.length = n)
        have hes : TosAt (w3.setCell ⟨g5, k * 4, none⟩ (.int .i64 y)) (some ⟨g5, 0, none⟩) (F.set k (toPut t 0 y)) := ES.out 0 (by omega) y
        rw [hF'] at hes
        have HB0 := Lib.hid hes
        clear hF' hes ES GS BS SZ
        have KA := awake_true (w3.setCell ⟨g5, k * 4, none⟩ (.int .i64 y)) (HE0.out.below BEL0.out hlow)
        have KA := Lib.hid KA
        have szb0 := BEL0.out.size
        go_wp2_with fail
        refine KA.out.mono ?_
        rintro e v1 ⟨rfl, b1⟩
        have BEL1 := Lib.hid (BEL0.out.trans (b1.mono szb0))
        have HA1 := Lib.hid (HA0.out.below b1)
        have HB1 := Lib.hid (HB0.out.below b1)
        clear b1 KA BEL0 HB0 szb0 HA0
        have Kvr := valid_any a0 cap0 raw v1 (HRAW.out.below BEL1.out) (by have := HRL.out; omega)
        rw [HRL.out] at Kvr
        have Kvr := Lib.hid Kvr
        have szb1 := BEL1.out.size
        go_wp2_with fail
        refine Kvr.out.mono ?_
        rintro e v2 ⟨rfl, b2⟩
        have BEL2 := Lib.hid (BEL1.out.trans (b2.mono szb1))
        have HA2 := Lib.hid (HA1.out.below b2)
        have HB2 := Lib.hid (HB1.out.below b2)
        clear b2 Kvr BEL1 HB1 szb1 HA1
        have Krvr := rvalid_any a0 cap0 raw v2 (HRAW.out.below BEL2.out) (by have := HRL.out; omega)
        rw [HRL.out] at Krvr
        have Krvr := Lib.hid Krvr
        have qrvr : (validT raw == validT raw) = true := by simp
        have szb2 := BEL2.out.size
        go_wp2_with fail
        refine Krvr.out.mono ?_
        rintro e v3 ⟨rfl, b3⟩
        have BEL3 := Lib.hid (BEL2.out.trans (b3.mono szb2))
        have HA3 := Lib.hid (HA2.out.below b3)
        have HB3 := Lib.hid (HB2.out.below b3)
        clear b3 Krvr BEL2 HB2 szb2 HA2
        have Kfr := format_any a0 cap0 raw v3 (HRAW.out.below BEL3.out) (by have := HRL.out; omega) (HE0.out.below BEL3.out hlow)
        rw [HRL.out] at Kfr
        have Kfr := Lib.hid Kfr
        have szb3 := BEL3.out.size
        go_wp2_with fail
        refine Kfr.out.mono ?_
        rintro e v4 ⟨rfl, b4⟩
        have BEL4 := Lib.hid (BEL3.out.trans (b4.mono szb3))
        have HA4 := Lib.hid (HA3.out.below b4)
        have HB4 := Lib.hid (HB3.out.below b4)
        clear b4 Kfr BEL3 HB3 szb3 HA3
        have Krfr := rformat_any a0 cap0 raw v4 (HRAW.out.below BEL4.out) (by have := HRL.out; omega)
        rw [HRL.out] at Krfr
        have Krfr := Lib.hid Krfr
        have qrfr : ((mkB (formatT raw)).toList == (mkB (formatT raw)).toList) = true := by simp
        have szb4 := BEL4.out.size
        go_wp2_with fail
        refine Krfr.out.mono ?_
        rintro e v5 ⟨rfl, b5⟩
        have BEL5 := Lib.hid (BEL4.out.trans (b5.mono szb4))
        have HA5 := Lib.hid (HA4.out.below b5)
        have HB5 := Lib.hid (HB4.out.below b5)
        clear b5 Krfr BEL4 HB4 szb4 HA4
        have Kva := valid_any a2 c2 E v5 HA5.out (by have := HLE.out; omega)
        rw [HLE.out] at Kva
        rw [HVE.out] at Kva
        have Kva := Lib.hid Kva
        have szb5 := BEL5.out.size
        go_wp2_with fail
        refine Kva.out.mono ?_
        rintro e v6 ⟨rfl, b6⟩
        have BEL6 := Lib.hid (BEL5.out.trans (b6.mono szb5))
        have HA6 := Lib.hid (HA5.out.below b6)
        have HB6 := Lib.hid (HB5.out.below b6)
        clear b6 Kva BEL5 HB5 szb5 HA5
        have Kfa := format_any a2 c2 E v6 HA6.out (by have := HLE.out; omega) (HE0.out.below BEL6.out hlow)
        rw [HLE.out] at Kfa
        have Kfa := Lib.hid Kfa
        have szb6 := BEL6.out.size
        go_wp2_with fail
        refine Kfa.out.mono ?_
        rintro e v7 ⟨rfl, b7⟩
        have BEL7 := Lib.hid (BEL6.out.trans (b7.mono szb6))
        have HA7 := Lib.hid (HA6.out.below b7)
        have HB7 := Lib.hid (HB6.out.below b7)
        clear b7 Kfa BEL6 HB6 szb6 HA6
        have Krfa := rformat_any a2 c2 E v7 HA7.out (by have := HLE.out; omega)
        rw [HLE.out] at Krfa
        have Krfa := Lib.hid Krfa
        have qrfa : ((mkB (formatT E)).toList == (mkB (formatT E)).toList) = true := by simp
        have szb7 := BEL7.out.size
        go_wp2_with fail
        refine Krfa.out.mono ?_
        rintro e v8 ⟨rfl, b8⟩
        have BEL8 := Lib.hid (BEL7.out.trans (b8.mono szb7))
        have HA8 := Lib.hid (HA7.out.below b8)
        have HB8 := Lib.hid (HB7.out.below b8)
        clear b8 Krfa BEL7 HB7 szb7 HA7
        have Kvb := valid_any (some ⟨g5, 0, none⟩) c5 F' v8 HB8.out (by have := HLF.out; omega)
        rw [HLF.out] at Kvb
        have Kvb := Lib.hid Kvb
        have szb8 := BEL8.out.size
        go_wp2_with fail
        refine Kvb.out.mono ?_
        rintro e v9 ⟨rfl, b9⟩
        have BEL9 := Lib.hid (BEL8.out.trans (b9.mono szb8))
        have HB9 := Lib.hid (HB8.out.below b9)
        clear b9 Kvb BEL8 HB8 szb8
        have Krvb := rvalid_any (some ⟨g5, 0, none⟩) c5 F' v9 HB9.out (by have := HLF.out; omega)
        rw [HLF.out] at Krvb
        have Krvb := Lib.hid Krvb
        have qrvb : (validT F' == validT F') = true := by simp
        have szb9 := BEL9.out.size
        go_wp2_with fail
        refine Krvb.out.mono ?_
        rintro e v10 ⟨rfl, b10⟩
        have BEL10 := Lib.hid (BEL9.out.trans (b10.mono szb9))
        have HB10 := Lib.hid (HB9.out.below b10)
        clear b10 Krvb BEL9 HB9 szb9
        have Kfb := format_any (some ⟨g5, 0, none⟩) c5 F' v10 HB10.out (by have := HLF.out; omega) (HE0.out.below BEL10.out hlow)
        rw [HLF.out] at Kfb
        have Kfb := Lib.hid Kfb
        have szb10 := BEL10.out.size
        go_wp2_with fail
        refine Kfb.out.mono ?_
        rintro e v11 ⟨rfl, b11⟩
        have BEL11 := Lib.hid (BEL10.out.trans (b11.mono szb10))
        have HB11 := Lib.hid (HB10.out.below b11)
        clear b11 Kfb BEL10 HB10 szb10
        have Krfb := rformat_any (some ⟨g5, 0, none⟩) c5 F' v11 HB11.out (by have := HLF.out; omega)
        rw [HLF.out] at Krfb
        have Krfb := Lib.hid Krfb
        have qrfb : ((mkB (formatT F')).toList == (mkB (formatT F')).toList) = true := by simp
        have szb11 := BEL11.out.size
        go_wp2_with fail
        refine Krfb.out.mono ?_
        rintro e v12 ⟨rfl, b12⟩
        have BEL12 := Lib.hid (BEL11.out.trans (b12.mono szb11))
        have HB12 := Lib.hid (HB11.out.below b12)
        clear b12 Krfb BEL11 HB11 szb11
        go_wp2_with fail
        go_ret
        exact ⟨rfl, BEL12.out⟩
      · skip
        have KB := Lib.hid (between_any y (-1000) (1000) w3 (by omega) (by omega) (by omega))
        obtain ⟨y', hy'⟩ : ∃ y', -1000 + y % (1000 - (-1000) + 1) = y' := ⟨_, rfl⟩
        rw [hy'] at KB
        clear hy'
        go_wp2_with fail
        refine KB.out.mono ?_
        rintro e w6 ⟨rfl, rfl⟩
        clear KB
        have szW : (w3.setCell ⟨g5, k * 4 + 1, none⟩ (.int .i64 y')).heap.size = w3.heap.size := SZ.out 1 _
        have BEL0 := Lib.hid (BS.out 1 (.int .i64 y') : Below w.heap.size w (w3.setCell ⟨g5, k * 4 + 1, none⟩ (.int .i64 y')))
        have HA0 := Lib.hid (GS.out 1 (.int .i64 y') : TosAt (w3.setCell ⟨g5, k * 4 + 1, none⟩ (.int .i64 y')) a2 E)
        obtain ⟨F', hF'⟩ : ∃ F', F.set k (toPut t 1 y') = F' := ⟨_, rfl⟩
        have HLF := Lib.hid (by rw [← hF', List.length_set]; exact HNF.out : F'.length = n)
        have hes : TosAt (w3.setCell ⟨g5, k * 4 + 1, none⟩ (.int .i64 y')) (some ⟨g5, 0, none⟩) (F.set k (toPut t 1 y')) := ES.out 1 (by omega) y'
        rw [hF'] at hes
        have HB0 := Lib.hid hes
        clear hF' hes ES GS BS SZ
        have KA := awake_true (w3.setCell ⟨g5, k * 4 + 1, none⟩ (.int .i64 y')) (HE0.out.below BEL0.out hlow)
        have KA := Lib.hid KA
        have szb0 := BEL0.out.size
        go_wp2_with fail
        refine KA.out.mono ?_
        rintro e v1 ⟨rfl, b1⟩
        have BEL1 := Lib.hid (BEL0.out.trans (b1.mono szb0))
        have HA1 := Lib.hid (HA0.out.below b1)
        have HB1 := Lib.hid (HB0.out.below b1)
        clear b1 KA BEL0 HB0 szb0 HA0
        have Kvr := valid_any a0 cap0 raw v1 (HRAW.out.below BEL1.out) (by have := HRL.out; omega)
        rw [HRL.out] at Kvr
        have Kvr := Lib.hid Kvr
        have szb1 := BEL1.out.size
        go_wp2_with fail
        refine Kvr.out.mono ?_
        rintro e v2 ⟨rfl, b2⟩
        have BEL2 := Lib.hid (BEL1.out.trans (b2.mono szb1))
        have HA2 := Lib.hid (HA1.out.below b2)
        have HB2 := Lib.hid (HB1.out.below b2)
        clear b2 Kvr BEL1 HB1 szb1 HA1
        have Krvr := rvalid_any a0 cap0 raw v2 (HRAW.out.below BEL2.out) (by have := HRL.out; omega)
        rw [HRL.out] at Krvr
        have Krvr := Lib.hid Krvr
        have qrvr : (validT raw == validT raw) = true := by simp
        have szb2 := BEL2.out.size
        go_wp2_with fail
        refine Krvr.out.mono ?_
        rintro e v3 ⟨rfl, b3⟩
        have BEL3 := Lib.hid (BEL2.out.trans (b3.mono szb2))
        have HA3 := Lib.hid (HA2.out.below b3)
        have HB3 := Lib.hid (HB2.out.below b3)
        clear b3 Krvr BEL2 HB2 szb2 HA2
        have Kfr := format_any a0 cap0 raw v3 (HRAW.out.below BEL3.out) (by have := HRL.out; omega) (HE0.out.below BEL3.out hlow)
        rw [HRL.out] at Kfr
        have Kfr := Lib.hid Kfr
        have szb3 := BEL3.out.size
        go_wp2_with fail
        refine Kfr.out.mono ?_
        rintro e v4 ⟨rfl, b4⟩
        have BEL4 := Lib.hid (BEL3.out.trans (b4.mono szb3))
        have HA4 := Lib.hid (HA3.out.below b4)
        have HB4 := Lib.hid (HB3.out.below b4)
        clear b4 Kfr BEL3 HB3 szb3 HA3
        have Krfr := rformat_any a0 cap0 raw v4 (HRAW.out.below BEL4.out) (by have := HRL.out; omega)
        rw [HRL.out] at Krfr
        have Krfr := Lib.hid Krfr
        have qrfr : ((mkB (formatT raw)).toList == (mkB (formatT raw)).toList) = true := by simp
        have szb4 := BEL4.out.size
        go_wp2_with fail
        refine Krfr.out.mono ?_
        rintro e v5 ⟨rfl, b5⟩
        have BEL5 := Lib.hid (BEL4.out.trans (b5.mono szb4))
        have HA5 := Lib.hid (HA4.out.below b5)
        have HB5 := Lib.hid (HB4.out.below b5)
        clear b5 Krfr BEL4 HB4 szb4 HA4
        have Kva := valid_any a2 c2 E v5 HA5.out (by have := HLE.out; omega)
        rw [HLE.out] at Kva
        rw [HVE.out] at Kva
        have Kva := Lib.hid Kva
        have szb5 := BEL5.out.size
        go_wp2_with fail
        refine Kva.out.mono ?_
        rintro e v6 ⟨rfl, b6⟩
        have BEL6 := Lib.hid (BEL5.out.trans (b6.mono szb5))
        have HA6 := Lib.hid (HA5.out.below b6)
        have HB6 := Lib.hid (HB5.out.below b6)
        clear b6 Kva BEL5 HB5 szb5 HA5
        have Kfa := format_any a2 c2 E v6 HA6.out (by have := HLE.out; omega) (HE0.out.below BEL6.out hlow)
        rw [HLE.out] at Kfa
        have Kfa := Lib.hid Kfa
        have szb6 := BEL6.out.size
        go_wp2_with fail
        refine Kfa.out.mono ?_
        rintro e v7 ⟨rfl, b7⟩
        have BEL7 := Lib.hid (BEL6.out.trans (b7.mono szb6))
        have HA7 := Lib.hid (HA6.out.below b7)
        have HB7 := Lib.hid (HB6.out.below b7)
        clear b7 Kfa BEL6 HB6 szb6 HA6
        have Krfa := rformat_any a2 c2 E v7 HA7.out (by have := HLE.out; omega)
        rw [HLE.out] at Krfa
        have Krfa := Lib.hid Krfa
        have qrfa : ((mkB (formatT E)).toList == (mkB (formatT E)).toList) = true := by simp
        have szb7 := BEL7.out.size
        go_wp2_with fail
        refine Krfa.out.mono ?_
        rintro e v8 ⟨rfl, b8⟩
        have BEL8 := Lib.hid (BEL7.out.trans (b8.mono szb7))
        have HA8 := Lib.hid (HA7.out.below b8)
        have HB8 := Lib.hid (HB7.out.below b8)
        clear b8 Krfa BEL7 HB7 szb7 HA7
        have Kvb := valid_any (some ⟨g5, 0, none⟩) c5 F' v8 HB8.out (by have := HLF.out; omega)
        rw [HLF.out] at Kvb
        have Kvb := Lib.hid Kvb
        have szb8 := BEL8.out.size
        go_wp2_with fail
        refine Kvb.out.mono ?_
        rintro e v9 ⟨rfl, b9⟩
        have BEL9 := Lib.hid (BEL8.out.trans (b9.mono szb8))
        have HB9 := Lib.hid (HB8.out.below b9)
        clear b9 Kvb BEL8 HB8 szb8
        have Krvb := rvalid_any (some ⟨g5, 0, none⟩) c5 F' v9 HB9.out (by have := HLF.out; omega)
        rw [HLF.out] at Krvb
        have Krvb := Lib.hid Krvb
        have qrvb : (validT F' == validT F') = true := by simp
        have szb9 := BEL9.out.size
        go_wp2_with fail
        refine Krvb.out.mono ?_
        rintro e v10 ⟨rfl, b10⟩
        have BEL10 := Lib.hid (BEL9.out.trans (b10.mono szb9))
        have HB10 := Lib.hid (HB9.out.below b10)
        clear b10 Krvb BEL9 HB9 szb9
        have Kfb := format_any (some ⟨g5, 0, none⟩) c5 F' v10 HB10.out (by have := HLF.out; omega) (HE0.out.below BEL10.out hlow)
        rw [HLF.out] at Kfb
        have Kfb := Lib.hid Kfb
        have szb10 := BEL10.out.size
        go_wp2_with fail
        refine Kfb.out.mono ?_
        rintro e v11 ⟨rfl, b11⟩
        have BEL11 := Lib.hid (BEL10.out.trans (b11.mono szb10))
        have HB11 := Lib.hid (HB10.out.below b11)
        clear b11 Kfb BEL10 HB10 szb10
        have Krfb := rformat_any (some ⟨g5, 0, none⟩) c5 F' v11 HB11.out (by have := HLF.out; omega)
        rw [HLF.out] at Krfb
        have Krfb := Lib.hid Krfb
        have qrfb : ((mkB (formatT F')).toList == (mkB (formatT F')).toList) = true := by simp
        have szb11 := BEL11.out.size
        go_wp2_with fail
        refine Krfb.out.mono ?_
        rintro e v12 ⟨rfl, b12⟩
        have BEL12 := Lib.hid (BEL11.out.trans (b12.mono szb11))
        have HB12 := Lib.hid (HB11.out.below b12)
        clear b12 Krfb BEL11 HB11 szb11
        go_wp2_with fail
        go_ret
        exact ⟨rfl, BEL12.out⟩
      · skip
        have szW : (w3.setCell ⟨g5, k * 4 + 2, none⟩ (.int .i64 y)).heap.size = w3.heap.size := SZ.out 2 _
        have BEL0 := Lib.hid (BS.out 2 (.int .i64 y) : Below w.heap.size w (w3.setCell ⟨g5, k * 4 + 2, none⟩ (.int .i64 y)))
        have HA0 := Lib.hid (GS.out 2 (.int .i64 y) : TosAt (w3.setCell ⟨g5, k * 4 + 2, none⟩ (.int .i64 y)) a2 E)
        obtain ⟨F', hF'⟩ : ∃ F', F.set k (toPut t 2 y) = F' := ⟨_, rfl⟩
        have HLF := Lib.hid (by rw [← hF', List.length_set]; exact HNF.out : F'.length = n)
        have hes : TosAt (w3.setCell ⟨g5, k * 4 + 2, none⟩ (.int .i64 y)) (some ⟨g5, 0, none⟩) (F.set k (toPut t 2 y)) := ES.out 2 (by omega) y
        rw [hF'] at hes
        have HB0 := Lib.hid hes
        clear hF' hes ES GS BS SZ
        have KA := awake_true (w3.setCell ⟨g5, k * 4 + 2, none⟩ (.int .i64 y)) (HE0.out.below BEL0.out hlow)
        have KA := Lib.hid KA
        have szb0 := BEL0.out.size
        go_wp2_with fail
        refine KA.out.mono ?_
        rintro e v1 ⟨rfl, b1⟩
        have BEL1 := Lib.hid (BEL0.out.trans (b1.mono szb0))
        have HA1 := Lib.hid (HA0.out.below b1)
        have HB1 := Lib.hid (HB0.out.below b1)
        clear b1 KA BEL0 HB0 szb0 HA0
        have Kvr := valid_any a0 cap0 raw v1 (HRAW.out.below BEL1.out) (by have := HRL.out; omega)
        rw [HRL.out] at Kvr
        have Kvr := Lib.hid Kvr
        have szb1 := BEL1.out.size
        go_wp2_with fail
        refine Kvr.out.mono ?_
        rintro e v2 ⟨rfl, b2⟩
        have BEL2 := Lib.hid (BEL1.out.trans (b2.mono szb1))
        have HA2 := Lib.hid (HA1.out.below b2)
        have HB2 := Lib.hid (HB1.out.below b2)
        clear b2 Kvr BEL1 HB1 szb1 HA1
        have Krvr := rvalid_any a0 cap0 raw v2 (HRAW.out.below BEL2.out) (by have := HRL.out; omega)
        rw [HRL.out] at Krvr
        have Krvr := Lib.hid Krvr
        have qrvr : (validT raw == validT raw) = true := by simp
        have szb2 := BEL2.out.size
        go_wp2_with fail
        refine Krvr.out.mono ?_
        rintro e v3 ⟨rfl, b3⟩
        have BEL3 := Lib.hid (BEL2.out.trans (b3.mono szb2))
        have HA3 := Lib.hid (HA2.out.below b3)
        have HB3 := Lib.hid (HB2.out.below b3)
        clear b3 Krvr BEL2 HB2 szb2 HA2
        have Kfr := format_any a0 cap0 raw v3 (HRAW.out.below BEL3.out) (by have := HRL.out; omega) (HE0.out.below BEL3.out hlow)
        rw [HRL.out] at Kfr
        have Kfr := Lib.hid Kfr
        have szb3 := BEL3.out.size
        go_wp2_with fail
        refine Kfr.out.mono ?_
        rintro e v4 ⟨rfl, b4⟩
        have BEL4 := Lib.hid (BEL3.out.trans (b4.mono szb3))
        have HA4 := Lib.hid (HA3.out.below b4)
        have HB4 := Lib.hid (HB3.out.below b4)
        clear b4 Kfr BEL3 HB3 szb3 HA3
        have Krfr := rformat_any a0 cap0 raw v4 (HRAW.out.below BEL4.out) (by have := HRL.out; omega)
        rw [HRL.out] at Krfr
        have Krfr := Lib.hid Krfr
        have qrfr : ((mkB (formatT raw)).toList == (mkB (formatT raw)).toList) = true := by simp
        have szb4 := BEL4.out.size
        go_wp2_with fail
        refine Krfr.out.mono ?_
        rintro e v5 ⟨rfl, b5⟩
        have BEL5 := Lib.hid (BEL4.out.trans (b5.mono szb4))
        have HA5 := Lib.hid (HA4.out.below b5)
        have HB5 := Lib.hid (HB4.out.below b5)
        clear b5 Krfr BEL4 HB4 szb4 HA4
        have Kva := valid_any a2 c2 E v5 HA5.out (by have := HLE.out; omega)
        rw [HLE.out] at Kva
        rw [HVE.out] at Kva
        have Kva := Lib.hid Kva
        have szb5 := BEL5.out.size
        go_wp2_with fail
        refine Kva.out.mono ?_
        rintro e v6 ⟨rfl, b6⟩
        have BEL6 := Lib.hid (BEL5.out.trans (b6.mono szb5))
        have HA6 := Lib.hid (HA5.out.below b6)
        have HB6 := Lib.hid (HB5.out.below b6)
        clear b6 Kva BEL5 HB5 szb5 HA5
        have Kfa := format_any a2 c2 E v6 HA6.out (by have := HLE.out; omega) (HE0.out.below BEL6.out hlow)
        rw [HLE.out] at Kfa
        have Kfa := Lib.hid Kfa
        have szb6 := BEL6.out.size
        go_wp2_with fail
        refine Kfa.out.mono ?_
        rintro e v7 ⟨rfl, b7⟩
        have BEL7 := Lib.hid (BEL6.out.trans (b7.mono szb6))
        have HA7 := Lib.hid (HA6.out.below b7)
        have HB7 := Lib.hid (HB6.out.below b7)
        clear b7 Kfa BEL6 HB6 szb6 HA6
        have Krfa := rformat_any a2 c2 E v7 HA7.out (by have := HLE.out; omega)
        rw [HLE.out] at Krfa
        have Krfa := Lib.hid Krfa
        have qrfa : ((mkB (formatT E)).toList == (mkB (formatT E)).toList) = true := by simp
        have szb7 := BEL7.out.size
        go_wp2_with fail
        refine Krfa.out.mono ?_
        rintro e v8 ⟨rfl, b8⟩
        have BEL8 := Lib.hid (BEL7.out.trans (b8.mono szb7))
        have HA8 := Lib.hid (HA7.out.below b8)
        have HB8 := Lib.hid (HB7.out.below b8)
        clear b8 Krfa BEL7 HB7 szb7 HA7
        have Kvb := valid_any (some ⟨g5, 0, none⟩) c5 F' v8 HB8.out (by have := HLF.out; omega)
        rw [HLF.out] at Kvb
        have Kvb := Lib.hid Kvb
        have szb8 := BEL8.out.size
        go_wp2_with fail
        refine Kvb.out.mono ?_
        rintro e v9 ⟨rfl, b9⟩
        have BEL9 := Lib.hid (BEL8.out.trans (b9.mono szb8))
        have HB9 := Lib.hid (HB8.out.below b9)
        clear b9 Kvb BEL8 HB8 szb8
        have Krvb := rvalid_any (some ⟨g5, 0, none⟩) c5 F' v9 HB9.out (by have := HLF.out; omega)
        rw [HLF.out] at Krvb
        have Krvb := Lib.hid Krvb
        have qrvb : (validT F' == validT F') = true := by simp
        have szb9 := BEL9.out.size
        go_wp2_with fail
        refine Krvb.out.mono ?_
        rintro e v10 ⟨rfl, b10⟩
        have BEL10 := Lib.hid (BEL9.out.trans (b10.mono szb9))
        have HB10 := Lib.hid (HB9.out.below b10)
        clear b10 Krvb BEL9 HB9 szb9
        have Kfb := format_any (some ⟨g5, 0, none⟩) c5 F' v10 HB10.out (by have := HLF.out; omega) (HE0.out.below BEL10.out hlow)
        rw [HLF.out] at Kfb
        have Kfb := Lib.hid Kfb
        have szb10 := BEL10.out.size
        go_wp2_with fail
        refine Kfb.out.mono ?_
        rintro e v11 ⟨rfl, b11⟩
        have BEL11 := Lib.hid (BEL10.out.trans (b11.mono szb10))
        have HB11 := Lib.hid (HB10.out.below b11)
        clear b11 Kfb BEL10 HB10 szb10
        have Krfb := rformat_any (some ⟨g5, 0, none⟩) c5 F' v11 HB11.out (by have := HLF.out; omega)
        rw [HLF.out] at Krfb
        have Krfb := Lib.hid Krfb
        have qrfb : ((mkB (formatT F')).toList == (mkB (formatT F')).toList) = true := by simp
        have szb11 := BEL11.out.size
        go_wp2_with fail
        refine Krfb.out.mono ?_
        rintro e v12 ⟨rfl, b12⟩
        have BEL12 := Lib.hid (BEL11.out.trans (b12.mono szb11))
        have HB12 := Lib.hid (HB11.out.below b12)
        clear b12 Krfb BEL11 HB11 szb11
        go_wp2_with fail
        go_ret
        exact ⟨rfl, BEL12.out⟩
      · skip
        have KB := Lib.hid (between_any y (-1000) (1000) w3 (by omega) (by omega) (by omega))
        obtain ⟨y', hy'⟩ : ∃ y', -1000 + y % (1000 - (-1000) + 1) = y' := ⟨_, rfl⟩
        rw [hy'] at KB
        clear hy'
        go_wp2_with fail
        refine KB.out.mono ?_
        rintro e w6 ⟨rfl, rfl⟩
        clear KB
        have szW : (w3.setCell ⟨g5, k * 4 + 3, none⟩ (.int .i64 y')).heap.size = w3.heap.size := SZ.out 3 _
        have BEL0 := Lib.hid (BS.out 3 (.int .i64 y') : Below w.heap.size w (w3.setCell ⟨g5, k * 4 + 3, none⟩ (.int .i64 y')))
        have HA0 := Lib.hid (GS.out 3 (.int .i64 y') : TosAt (w3.setCell ⟨g5, k * 4 + 3, none⟩ (.int .i64 y')) a2 E)
        obtain ⟨F', hF'⟩ : ∃ F', F.set k (toPut t 3 y') = F' := ⟨_, rfl⟩
        have HLF := Lib.hid (by rw [← hF', List.length_set]; exact HNF.out : F'.length = n)
        have hes : TosAt (w3.setCell ⟨g5, k * 4 + 3, none⟩ (.int .i64 y')) (some ⟨g5, 0, none⟩) (F.set k (toPut t 3 y')) := ES.out 3 (by omega) y'
        rw [hF'] at hes
        have HB0 := Lib.hid hes
        clear hF' hes ES GS BS SZ
        have KA := awake_true (w3.setCell ⟨g5, k * 4 + 3, none⟩ (.int .i64 y')) (HE0.out.below BEL0.out hlow)
        have KA := Lib.hid KA
        have szb0 := BEL0.out.size
        go_wp2_with fail
        refine KA.out.mono ?_
        rintro e v1 ⟨rfl, b1⟩
        have BEL1 := Lib.hid (BEL0.out.trans (b1.mono szb0))
        have HA1 := Lib.hid (HA0.out.below b1)
        have HB1 := Lib.hid (HB0.out.below b1)
        clear b1 KA BEL0 HB0 szb0 HA0
        have Kvr := valid_any a0 cap0 raw v1 (HRAW.out.below BEL1.out) (by have := HRL.out; omega)
        rw [HRL.out] at Kvr
        have Kvr := Lib.hid Kvr
        have szb1 := BEL1.out.size
        go_wp2_with fail
        refine Kvr.out.mono ?_
        rintro e v2 ⟨rfl, b2⟩
        have BEL2 := Lib.hid (BEL1.out.trans (b2.mono szb1))
        have HA2 := Lib.hid (HA1.out.below b2)
        have HB2 := Lib.hid (HB1.out.below b2)
        clear b2 Kvr BEL1 HB1 szb1 HA1
        have Krvr := rvalid_any a0 cap0 raw v2 (HRAW.out.below BEL2.out) (by have := HRL.out; omega)
        rw [HRL.out] at Krvr
        have Krvr := Lib.hid Krvr
        have qrvr : (validT raw == validT raw) = true := by simp
        have szb2 := BEL2.out.size
        go_wp2_with fail
        refine Krvr.out.mono ?_
        rintro e v3 ⟨rfl, b3⟩
        have BEL3 := Lib.hid (BEL2.out.trans (b3.mono szb2))
        have HA3 := Lib.hid (HA2.out.below b3)
        have HB3 := Lib.hid (HB2.out.below b3)
        clear b3 Krvr BEL2 HB2 szb2 HA2
        have Kfr := format_any a0 cap0 raw v3 (HRAW.out.below BEL3.out) (by have := HRL.out; omega) (HE0.out.below BEL3.out hlow)
        rw [HRL.out] at Kfr
        have Kfr := Lib.hid Kfr
        have szb3 := BEL3.out.size
        go_wp2_with fail
        refine Kfr.out.mono ?_
        rintro e v4 ⟨rfl, b4⟩
        have BEL4 := Lib.hid (BEL3.out.trans (b4.mono szb3))
        have HA4 := Lib.hid (HA3.out.below b4)
        have HB4 := Lib.hid (HB3.out.below b4)
        clear b4 Kfr BEL3 HB3 szb3 HA3
        have Krfr := rformat_any a0 cap0 raw v4 (HRAW.out.below BEL4.out) (by have := HRL.out; omega)
        rw [HRL.out] at Krfr
        have Krfr := Lib.hid Krfr
        have qrfr : ((mkB (formatT raw)).toList == (mkB (formatT raw)).toList) = true := by simp
        have szb4 := BEL4.out.size
        go_wp2_with fail
        refine Krfr.out.mono ?_
        rintro e v5 ⟨rfl, b5⟩
        have BEL5 := Lib.hid (BEL4.out.trans (b5.mono szb4))
        have HA5 := Lib.hid (HA4.out.below b5)
        have HB5 := Lib.hid (HB4.out.below b5)
        clear b5 Krfr BEL4 HB4 szb4 HA4
        have Kva := valid_any a2 c2 E v5 HA5.out (by have := HLE.out; omega)
        rw [HLE.out] at Kva
        rw [HVE.out] at Kva
        have Kva := Lib.hid Kva
        have szb5 := BEL5.out.size
        go_wp2_with fail
        refine Kva.out.mono ?_
        rintro e v6 ⟨rfl, b6⟩
        have BEL6 := Lib.hid (BEL5.out.trans (b6.mono szb5))
        have HA6 := Lib.hid (HA5.out.below b6)
        have HB6 := Lib.hid (HB5.out.below b6)
        clear b6 Kva BEL5 HB5 szb5 HA5
        have Kfa := format_any a2 c2 E v6 HA6.out (by have := HLE.out; omega) (HE0.out.below BEL6.out hlow)
        rw [HLE.out] at Kfa
        have Kfa := Lib.hid Kfa
        have szb6 := BEL6.out.size
        go_wp2_with fail
        refine Kfa.out.mono ?_
        rintro e v7 ⟨rfl, b7⟩
        have BEL7 := Lib.hid (BEL6.out.trans (b7.mono szb6))
        have HA7 := Lib.hid (HA6.out.below b7)
        have HB7 := Lib.hid (HB6.out.below b7)
        clear b7 Kfa BEL6 HB6 szb6 HA6
        have Krfa := rformat_any a2 c2 E v7 HA7.out (by have := HLE.out; omega)
        rw [HLE.out] at Krfa
        have Krfa := Lib.hid Krfa
        have qrfa : ((mkB (formatT E)).toList == (mkB (formatT E)).toList) = true := by simp
        have szb7 := BEL7.out.size
        go_wp2_with fail
        refine Krfa.out.mono ?_
        rintro e v8 ⟨rfl, b8⟩
        have BEL8 := Lib.hid (BEL7.out.trans (b8.mono szb7))
        have HA8 := Lib.hid (HA7.out.below b8)
        have HB8 := Lib.hid (HB7.out.below b8)
        clear b8 Krfa BEL7 HB7 szb7 HA7
        have Kvb := valid_any (some ⟨g5, 0, none⟩) c5 F' v8 HB8.out (by have := HLF.out; omega)
        rw [HLF.out] at Kvb
        have Kvb := Lib.hid Kvb
        have szb8 := BEL8.out.size
        go_wp2_with fail
        refine Kvb.out.mono ?_
        rintro e v9 ⟨rfl, b9⟩
        have BEL9 := Lib.hid (BEL8.out.trans (b9.mono szb8))
        have HB9 := Lib.hid (HB8.out.below b9)
        clear b9 Kvb BEL8 HB8 szb8
        have Krvb := rvalid_any (some ⟨g5, 0, none⟩) c5 F' v9 HB9.out (by have := HLF.out; omega)
        rw [HLF.out] at Krvb
        have Krvb := Lib.hid Krvb
        have qrvb : (validT F' == validT F') = true := by simp
        have szb9 := BEL9.out.size
        go_wp2_with fail
        refine Krvb.out.mono ?_
        rintro e v10 ⟨rfl, b10⟩
        have BEL10 := Lib.hid (BEL9.out.trans (b10.mono szb9))
        have HB10 := Lib.hid (HB9.out.below b10)
        clear b10 Krvb BEL9 HB9 szb9
        have Kfb := format_any (some ⟨g5, 0, none⟩) c5 F' v10 HB10.out (by have := HLF.out; omega) (HE0.out.below BEL10.out hlow)
        rw [HLF.out] at Kfb
        have Kfb := Lib.hid Kfb
        have szb10 := BEL10.out.size
        go_wp2_with fail
        refine Kfb.out.mono ?_
        rintro e v11 ⟨rfl, b11⟩
        have BEL11 := Lib.hid (BEL10.out.trans (b11.mono szb10))
        have HB11 := Lib.hid (HB10.out.below b11)
        clear b11 Kfb BEL10 HB10 szb10
        have Krfb := rformat_any (some ⟨g5, 0, none⟩) c5 F' v11 HB11.out (by have := HLF.out; omega)
        rw [HLF.out] at Krfb
        have Krfb := Lib.hid Krfb
        have qrfb : ((mkB (formatT F')).toList == (mkB (formatT F')).toList) = true := by simp
        have szb11 := BEL11.out.size
        go_wp2_with fail
        refine Krfb.out.mono ?_
        rintro e v12 ⟨rfl, b12⟩
        have BEL12 := Lib.hid (BEL11.out.trans (b12.mono szb11))
        have HB12 := Lib.hid (HB11.out.below b12)
        clear b12 Krfb BEL11 HB11 szb11
        go_wp2_with fail
        go_ret
        exact ⟨rfl, BEL12.out⟩
      · skip
        have KB := Lib.hid (between_any y (30000) (34000) w3 (by omega) (by omega) (by omega))
        obtain ⟨y', hy'⟩ : ∃ y', 30000 + y % (34000 - (30000) + 1) = y' := ⟨_, rfl⟩
        rw [hy'] at KB
        clear hy'
        go_wp2_with fail
        refine KB.out.mono ?_
        rintro e w6 ⟨rfl, rfl⟩
        clear KB
        have szW : (w3.setCell ⟨g5, k * 4 + 2, none⟩ (.int .i64 y')).heap.size = w3.heap.size := SZ.out 2 _
        have BEL0 := Lib.hid (BS.out 2 (.int .i64 y') : Below w.heap.size w (w3.setCell ⟨g5, k * 4 + 2, none⟩ (.int .i64 y')))
        have HA0 := Lib.hid (GS.out 2 (.int .i64 y') : TosAt (w3.setCell ⟨g5, k * 4 + 2, none⟩ (.int .i64 y')) a2 E)
        obtain ⟨F', hF'⟩ : ∃ F', F.set k (toPut t 2 y') = F' := ⟨_, rfl⟩
        have HLF := Lib.hid (by rw [← hF', List.length_set]; exact HNF.out : F'.length = n)
        have hes : TosAt (w3.setCell ⟨g5, k * 4 + 2, none⟩ (.int .i64 y')) (some ⟨g5, 0, none⟩) (F.set k (toPut t 2 y')) := ES.out 2 (by omega) y'
        rw [hF'] at hes
        have HB0 := Lib.hid hes
        clear hF' hes ES GS BS SZ
        have KA := awake_true (w3.setCell ⟨g5, k * 4 + 2, none⟩ (.int .i64 y')) (HE0.out.below BEL0.out hlow)
        have KA := Lib.hid KA
        have szb0 := BEL0.out.size
        go_wp2_with fail
        refine KA.out.mono ?_
        rintro e v1 ⟨rfl, b1⟩
        have BEL1 := Lib.hid (BEL0.out.trans (b1.mono szb0))
        have HA1 := Lib.hid (HA0.out.below b1)
        have HB1 := Lib.hid (HB0.out.below b1)
        clear b1 KA BEL0 HB0 szb0 HA0
        have Kvr := valid_any a0 cap0 raw v1 (HRAW.out.below BEL1.out) (by have := HRL.out; omega)
        rw [HRL.out] at Kvr
        have Kvr := Lib.hid Kvr
        have szb1 := BEL1.out.size
        go_wp2_with fail
        refine Kvr.out.mono ?_
        rintro e v2 ⟨rfl, b2⟩
        have BEL2 := Lib.hid (BEL1.out.trans (b2.mono szb1))
        have HA2 := Lib.hid (HA1.out.below b2)
        have HB2 := Lib.hid (HB1.out.below b2)
        clear b2 Kvr BEL1 HB1 szb1 HA1
        have Krvr := rvalid_any a0 cap0 raw v2 (HRAW.out.below BEL2.out) (by have := HRL.out; omega)
        rw [HRL.out] at Krvr
        have Krvr := Lib.hid Krvr
        have qrvr : (validT raw == validT raw) = true := by simp
        have szb2 := BEL2.out.size
        go_wp2_with fail
        refine Krvr.out.mono ?_
        rintro e v3 ⟨rfl, b3⟩
        have BEL3 := Lib.hid (BEL2.out.trans (b3.mono szb2))
        have HA3 := Lib.hid (HA2.out.below b3)
        have HB3 := Lib.hid (HB2.out.below b3)
        clear b3 Krvr BEL2 HB2 szb2 HA2
        have Kfr := format_any a0 cap0 raw v3 (HRAW.out.below BEL3.out) (by have := HRL.out; omega) (HE0.out.below BEL3.out hlow)
        rw [HRL.out] at Kfr
        have Kfr := Lib.hid Kfr
        have szb3 := BEL3.out.size
        go_wp2_with fail
        refine Kfr.out.mono ?_
        rintro e v4 ⟨rfl, b4⟩
        have BEL4 := Lib.hid (BEL3.out.trans (b4.mono szb3))
        have HA4 := Lib.hid (HA3.out.below b4)
        have HB4 := Lib.hid (HB3.out.below b4)
        clear b4 Kfr BEL3 HB3 szb3 HA3
        have Krfr := rformat_any a0 cap0 raw v4 (HRAW.out.below BEL4.out) (by have := HRL.out; omega)
        rw [HRL.out] at Krfr
        have Krfr := Lib.hid Krfr
        have qrfr : ((mkB (formatT raw)).toList == (mkB (formatT raw)).toList) = true := by simp
        have szb4 := BEL4.out.size
        go_wp2_with fail
        refine Krfr.out.mono ?_
        rintro e v5 ⟨rfl, b5⟩
        have BEL5 := Lib.hid (BEL4.out.trans (b5.mono szb4))
        have HA5 := Lib.hid (HA4.out.below b5)
        have HB5 := Lib.hid (HB4.out.below b5)
        clear b5 Krfr BEL4 HB4 szb4 HA4
        have Kva := valid_any a2 c2 E v5 HA5.out (by have := HLE.out; omega)
        rw [HLE.out] at Kva
        rw [HVE.out] at Kva
        have Kva := Lib.hid Kva
        have szb5 := BEL5.out.size
        go_wp2_with fail
        refine Kva.out.mono ?_
        rintro e v6 ⟨rfl, b6⟩
        have BEL6 := Lib.hid (BEL5.out.trans (b6.mono szb5))
        have HA6 := Lib.hid (HA5.out.below b6)
        have HB6 := Lib.hid (HB5.out.below b6)
        clear b6 Kva BEL5 HB5 szb5 HA5
        have Kfa := format_any a2 c2 E v6 HA6.out (by have := HLE.out; omega) (HE0.out.below BEL6.out hlow)
        rw [HLE.out] at Kfa
        have Kfa := Lib.hid Kfa
        have szb6 := BEL6.out.size
        go_wp2_with fail
        refine Kfa.out.mono ?_
        rintro e v7 ⟨rfl, b7⟩
        have BEL7 := Lib.hid (BEL6.out.trans (b7.mono szb6))
        have HA7 := Lib.hid (HA6.out.below b7)
        have HB7 := Lib.hid (HB6.out.below b7)
        clear b7 Kfa BEL6 HB6 szb6 HA6
        have Krfa := rformat_any a2 c2 E v7 HA7.out (by have := HLE.out; omega)
        rw [HLE.out] at Krfa
        have Krfa := Lib.hid Krfa
        have qrfa : ((mkB (formatT E)).toList == (mkB (formatT E)).toList) = true := by simp
        have szb7 := BEL7.out.size
        go_wp2_with fail
        refine Krfa.out.mono ?_
        rintro e v8 ⟨rfl, b8⟩
        have BEL8 := Lib.hid (BEL7.out.trans (b8.mono szb7))
        have HA8 := Lib.hid (HA7.out.below b8)
        have HB8 := Lib.hid (HB7.out.below b8)
        clear b8 Krfa BEL7 HB7 szb7 HA7
        have Kvb := valid_any (some ⟨g5, 0, none⟩) c5 F' v8 HB8.out (by have := HLF.out; omega)
        rw [HLF.out] at Kvb
        have Kvb := Lib.hid Kvb
        have szb8 := BEL8.out.size
        go_wp2_with fail
        refine Kvb.out.mono ?_
        rintro e v9 ⟨rfl, b9⟩
        have BEL9 := Lib.hid (BEL8.out.trans (b9.mono szb8))
        have HB9 := Lib.hid (HB8.out.below b9)
        clear b9 Kvb BEL8 HB8 szb8
        have Krvb := rvalid_any (some ⟨g5, 0, none⟩) c5 F' v9 HB9.out (by have := HLF.out; omega)
        rw [HLF.out] at Krvb
        have Krvb := Lib.hid Krvb
        have qrvb : (validT F' == validT F') = true := by simp
        have szb9 := BEL9.out.size
        go_wp2_with fail
        refine Krvb.out.mono ?_
        rintro e v10 ⟨rfl, b10⟩
        have BEL10 := Lib.hid (BEL9.out.trans (b10.mono szb9))
        have HB10 := Lib.hid (HB9.out.below b10)
        clear b10 Krvb BEL9 HB9 szb9
        have Kfb := format_any (some ⟨g5, 0, none⟩) c5 F' v10 HB10.out (by have := HLF.out; omega) (HE0.out.below BEL10.out hlow)
        rw [HLF.out] at Kfb
        have Kfb := Lib.hid Kfb
        have szb10 := BEL10.out.size
        go_wp2_with fail
        refine Kfb.out.mono ?_
        rintro e v11 ⟨rfl, b11⟩
        have BEL11 := Lib.hid (BEL10.out.trans (b11.mono szb10))
        have HB11 := Lib.hid (HB10.out.below b11)
        clear b11 Kfb BEL10 HB10 szb10
        have Krfb := rformat_any (some ⟨g5, 0, none⟩) c5 F' v11 HB11.out (by have := HLF.out; omega)
        rw [HLF.out] at Krfb
        have Krfb := Lib.hid Krfb
        have qrfb : ((mkB (formatT F')).toList == (mkB (formatT F')).toList) = true := by simp
        have szb11 := BEL11.out.size
        go_wp2_with fail
        refine Krfb.out.mono ?_
        rintro e v12 ⟨rfl, b12⟩
        have BEL12 := Lib.hid (BEL11.out.trans (b12.mono szb11))
        have HB12 := Lib.hid (HB11.out.below b12)
        clear b12 Krfb BEL11 HB11 szb11
        go_wp2_with fail
        go_ret
        exact ⟨rfl, BEL12.out⟩
  · rw [decide_eq_false h120] at KLI
    have KLI := Lib.hid KLI
    go_enter Tryd.func3, Tryd.ntmps3
    go_wp2_with fail
    refine KLI.out.mono ?_
    rintro e w' ⟨rfl, rfl⟩
    go_wp2_with fail
    refine KA0.out.mono ?_
    rintro e w1 ⟨rfl, b1⟩
    go_wp2_with fail
    go_ret
    exact ⟨rfl, b1⟩
end Go.Proofs.YtlpmbjgimllmgaaDoor
