/-
  EventValid returns true. Its arguments: any.
-/
import Derived.Test.YtkafmpgihhnhdaaDoorAwake33
import Derived.Test.YtkafmpgihhnhdaaDoorEvents33
namespace Go.Proofs.YtkafmpgihhnhdaaDoor
open Go Go.RowKit
set_option linter.unusedVariables false

theorem evsC_set : ∀ (l : List Ev) (i j : Nat) (t t' : Ev) (u : Value), l[i]? = some t → j < 3 → (evC t).set j u = evC t' → (evsC l).set (i * 3 + j) u = evsC (l.set i t')
  | [], i, j, t, t', u, h, _, _ => by simp at h
  | x :: l, 0, j, t, t', u, h, hj, he => by
    simp at h
    subst h
    rw [evsC, List.flatMap_cons, List.set_append_left _ _ (by show _ < 3; omega), Nat.zero_mul, Nat.zero_add, he]
    rfl
  | x :: l, i + 1, j, t, t', u, h, hj, he => by
    simp only [List.getElem?_cons_succ] at h
    rw [evsC, List.flatMap_cons, List.set_append_right _ _ (by show 3 ≤ _; omega), ← evsC]
    show evC x ++ (evsC l).set ((i + 1) * 3 + j - 3) u = _
    rw [show (i + 1) * 3 + j - 3 = i * 3 + j by omega, evsC_set l i j t t' u h hj he]
    rfl
/-- append of a list of events to an empty literal. -/
theorem go_evcopy {ops : Array Oper} {rest : List Oper} {a : Act} {w : World} {Q : Exit → Act → World → Prop} {dst : Option Tmp} {ty0 : TypeId} {pos : String} {after : Array Edge} (x y : Operand) (g : Nat) (ao : Option Addr) (c : Nat) (ts : List Ev)
    (hx : a.eval x = .slice (some ⟨g, 0, none⟩) 0 0) (hg : Blk w g 28 #[]) (hy : a.eval y = .slice ao ts.length c) (h0 : ao = none → ts.length = 0 ∧ c = 0) (hat : EvsAt w ao ts) (hn : ts.length ≤ 1000000)
    (h : ∀ v' w', w'.ownsRow g 28 3 v' ts.length (evsC ts) → w.grownBy w' (some g) → wpList Tryd.prog ops Q rest (a.put dst v') w') : wpList Tryd.prog ops Q (⟨dst, .call { callee := .builtin .append, args := #[x, y], argTypes := #[22, 22] }, ty0, pos, after, none⟩ :: rest) a w := by
  obtain ⟨i0, hi, hz0, hz1, hz2⟩ := info_parts infoEv
  have hown : w.ownsRow g 28 3 (.slice (some ⟨g, 0, none⟩) 0 0) 0 [] := ⟨by simp, .inr ⟨g, 0, #[], rfl, Nat.le_refl _, hg, Nat.le_refl _, by decide, by simp, by simp⟩⟩
  refine wpList_append_tab rfl x y 22 rfl g 28 i0 (.agg #[.int .i64 0, .int .i64 0, .int .i64 0]) 3 24 Tryd.underlying22 hi hz0 hz1 hz2 (by kernel_rfl) (by decide) _ 0 [] hx hown ao ts.length c (evsC ts) hy h0 (evsC_len ts) ?_ (evsC_one ts) (by unfold maxLen; omega) (by omega) (by have := hg.lt; omega) ?_
  · intro ad had j u hu
    have hj : j < ts.length * 3 := by rw [← evsC_len]; exact (List.getElem?_eq_some_iff.1 hu).1
    have hi3 : j / 3 < ts.length := by omega
    obtain ⟨b, o, eb, _, hc⟩ := hat (j / 3) _ (List.getElem?_eq_getElem hi3)
    subst eb
    injection had with had
    subst had
    have e := evsC_at ts (j / 3) (j % 3) _ (List.getElem?_eq_getElem hi3) (by omega)
    rw [show j / 3 * 3 + j % 3 = j by omega, hu] at e
    have := hc (j % 3) u e.symm
    rw [show o + j / 3 * 3 + j % 3 = o + j by omega] at this
    rw [Addr.add_mid]
    exact this
  · intro v' w' hown' hgrow _
    rw [Nat.zero_add, List.nil_append] at hown'
    exact h v' w' hown' hgrow
theorem evs_form {w : World} {base : Nat} {v : Value} {l : List Ev} (h : w.ownsRow base 28 3 v l.length (evsC l)) : ∃ a c, v = .slice a l.length c ∧ EvsAt w a l ∧ (a = none → l.length = 0 ∧ c = 0) ∧ (∀ g o, a = some ⟨g, o, none⟩ → o = 0 ∧ base ≤ g) := by
  obtain ⟨a, c, e, hat, _⟩ := evs_own h
  refine ⟨a, c, e, hat, ?_⟩
  subst e
  rcases h.2 with ⟨h1, h2⟩ | ⟨g', cap', cur, h1, hb, _⟩
  · injection h1 with h1 h3 h4
    exact ⟨fun _ => ⟨h2, h4⟩, fun g o h => (by rw [h1] at h; cases h)⟩
  · injection h1 with h1 h3 h4
    refine ⟨fun h => (by rw [h1] at h; cases h), fun g o h => ?_⟩
    rw [h1] at h
    injection h with h
    injection h with h5 h6
    exact ⟨h6.symm, by omega⟩
/-- One field of an event written. -/
def evPut (e : Ev) (j : Nat) (v : Int) : Ev := match j with | 0 => { e with cy := v } | 1 => { e with kd := v } | _ => { e with n := v }
theorem evPut_C (e : Ev) (j : Nat) (hj : j < 3) (v : Int) : (evC e).set j (.int .i64 v) = evC (evPut e j v) := by
  have h : j = 0 ∨ j = 1 ∨ j = 2 := by omega
  rcases h with rfl | rfl | rfl <;> rfl
/-- A field of an event of the call's own list is written. -/
theorem ev_stored {W : World} {base g cap m i j : Nat} {l : List Ev} {t : Ev} (h : W.ownsRow base 28 3 (.slice (some ⟨g, 0, none⟩) m cap) l.length (evsC l)) (hm : l.length = m) (hi : l[i]? = some t) (hj : j < 3) (v : Int) :
    EvsAt (W.setCell ⟨g, i * 3 + j, none⟩ (.int .i64 v)) (some ⟨g, 0, none⟩) (l.set i (evPut t j v)) := by
  subst hm
  have h2 := (h.stored (i * 3 + j) (.int .i64 v)).1
  rw [evsC_set l i j t (evPut t j v) _ hi hj (evPut_C t j hj v)] at h2
  have e : l.length = (l.set i (evPut t j v)).length := by simp
  rw [e] at h2
  obtain ⟨a, c, ea, hat, _⟩ := evs_own h2
  injection ea with e1 e2 e3
  rw [← e1] at hat
  exact hat
set_option maxRecDepth 100000 in
set_option maxHeartbeats 4000000 in
theorem lvalid_walk (a0 : Option Addr) (len0 cap0 : Nat) (a1 : Option Addr) (len1 cap1 : Nat) (z1 : List Int) (k v : Int) (w : World) (hE : Env w) (h0 : Leaf w (.tab eventKs) (.slice a0 len0 cap0)) (hr : IsRow .i64 w a1 len1 cap1 z1) : Calls Tryd.prog 3 #[.slice a0 len0 cap0, .slice a1 len1 cap1, .int .i64 k, .int .i64 v] w fun e w' => e = .returned (.bool true) ∧ Below w.heap.size w w' := by
  have KA := Lib.hid (awake_true w hE)
  have HE := Lib.hid hE
  have HR := Lib.hid hr
  have hlow := hE.low
  obtain ⟨raw, hrl, hraw, hr63⟩ := evs_tab h0
  have HRAW := Lib.hid hraw
  have HRL := Lib.hid hrl
  clear hE hr h0 hraw hrl
  by_cases h4 : 100 < len0
  · have d1 : decide (100 < len0) = true := by simpa using h4
    have d1' : decide (100 < (len0 : Int)) = true := decide_eq_true (by omega)
    go_enter Tryd.func3, Tryd.ntmps3
    go_wp2_with fail
    refine KA.out.mono ?_
    rintro e w1 ⟨rfl, b1⟩
    go_wp2_with fail
    go_ret
    exact ⟨rfl, b1⟩
  have d0 : decide (100 < len0) = false := by simpa using h4
  have d0' : decide (100 < (len0 : Int)) = false := decide_eq_false (by omega)
  by_cases h5 : 200 < len1
  · have d1 : decide (200 < len1) = true := by simpa using h5
    have d1' : decide (200 < (len1 : Int)) = true := decide_eq_true (by omega)
    go_enter Tryd.func3, Tryd.ntmps3
    go_wp2_with fail
    refine KA.out.mono ?_
    rintro e w1 ⟨rfl, b1⟩
    go_wp2_with fail
    go_ret
    exact ⟨rfl, b1⟩
  have d1 : decide (200 < len1) = false := by simpa using h5
  have d1' : decide (200 < (len1 : Int)) = false := decide_eq_false (by omega)
  go_enter Tryd.func3, Tryd.ntmps3
  go_wp2_with fail
  refine KA.out.mono ?_
  rintro e w1 ⟨rfl, b1⟩
  have KV := Lib.hid (events_any w1 a1 len1 cap1 z1 (HR.out.below b1) (by omega))
  have BEL1 := Lib.hid b1
  have sz1 := b1.size
  clear b1 KA HE
  go_wp2_with fail
  refine KV.out.mono ?_
  rintro e w2 ⟨vv, E, rfl, hv, hlen, hown, b2⟩
  obtain ⟨a2, c2, rfl, hat, hnone, _⟩ := evs_form hown
  have sz2 := b2.size
  have BEL2 := Lib.hid (BEL1.out.trans (b2.mono (by omega)))
  have HAT := Lib.hid hat
  have HV := Lib.hid hv
  have HNO := Lib.hid hnone
  have HLN := Lib.hid hlen
  obtain ⟨n, hn⟩ : ∃ n, E.length = n := ⟨_, rfl⟩
  have HN := Lib.hid hn
  rw [hn]
  clear hown hat b2 hv KV hlen hn hnone
  rcases Nat.eq_zero_or_pos n with hn0 | hn0
  · have e0 : decide (0 < n) = false := decide_eq_false (by omega)
    have e0' : decide (0 < (n : Int)) = false := decide_eq_false (by omega)
    have hn200 : n ≤ 200 := by omega
    clear hn0
    go_wp2_with (first
      | ((with_reducible refine go_evcopy (.tmp 24) (.tmp 25) w2.heap.size a2 c2 E (by with_unfolding_all rfl) (by with_unfolding_all exact Blk.new w2 _ _) (by rw [HN.out]; with_unfolding_all rfl) HNO.out (HAT.out.below ((Below.refl _ _).alloc (Nat.le_refl _) _)) (by have := HLN.out; omega) ?_); intro v5 w5 hown5 hgrow; have b5 := Lib.hid (((Below.refl w2.heap.size w2).alloc (Nat.le_refl _) (.cells #[] 28)).trans (below_of_grown hgrow (by simp) (by intro k hk; injection hk; omega))); obtain ⟨a5, c5, rfl, hat5, _, _⟩ := evs_form hown5; have HAT5 := Lib.hid hat5; rw [HN.out]; clear hat5; clear hown5 hgrow))
    have sz5 := b5.out.size
    have BEL10 := Lib.hid (BEL2.out.trans (b5.out.mono (by omega)))
    have HG1 := Lib.hid (HAT.out.below b5.out)
    obtain ⟨E', hE'⟩ : ∃ E', E = E' := ⟨_, rfl⟩
    have HG2 : Hid (EvsAt w5 a5 E') := by rw [← hE']; exact HAT5
    have HLN2E := Lib.hid (by rw [← hE']; exact HN.out : E'.length = n)
    have HLN2 := Lib.hid (by rw [HLN2E.out]; omega : E'.length ≤ 200)
    clear hE'
    have KV1 := Lib.hid (valid_any a2 c2 E w5 HG1.out (by have := HLN.out; omega))
    rw [HN.out] at KV1
    go_wp2_with fail
    refine KV1.out.mono ?_
    rintro e w11 ⟨rfl, b11⟩
    have sz11 := b11.size
    have BEL11 := Lib.hid (BEL10.out.trans (b11.mono (by omega)))
    have KV2 := Lib.hid (valid_any a5 c5 E' w11 (HG2.out.below b11) (by have := HLN2.out; omega))
    have HG3 := Lib.hid (HG2.out.below b11)
    rw [HV.out]
    rw [HLN2E.out] at KV2
    clear b11 KV1 HG1 BEL10 HG2
    go_wp2_with fail
    refine KV2.out.mono ?_
    rintro e w12 ⟨rfl, b12⟩
    have sz12 := b12.size
    have BEL12 := Lib.hid (BEL11.out.trans (b12.mono (by omega)))
    have KV3 := Lib.hid (rvalid_any a5 c5 E' w12 (HG3.out.below b12) (by have := HLN2.out; omega))
    rw [HLN2E.out] at KV3
    clear b12 KV2 BEL11 HG3
    go_wp2_with fail
    refine KV3.out.mono ?_
    rintro e w13 ⟨rfl, b13⟩
    have sz13 := b13.size
    have BEL13 := Lib.hid (BEL12.out.trans (b13.mono (by omega)))
    have KV4 := Lib.hid (valid_any a0 cap0 raw w13 (HRAW.out.below BEL13.out) (by have := HRL.out; omega))
    rw [HRL.out] at KV4
    have q1 : (validE E' == validE E') = true := by simp
    clear b13 KV3 BEL12
    go_wp2_with fail
    refine KV4.out.mono ?_
    rintro e w14 ⟨rfl, b14⟩
    have BEL14 := Lib.hid (BEL13.out.trans (b14.mono (by omega)))
    have KV5 := Lib.hid (rvalid_any a0 cap0 raw w14 (HRAW.out.below BEL14.out) (by have := HRL.out; omega))
    rw [HRL.out] at KV5
    have q2 : (validE raw == validE raw) = true := by simp
    have sz14 := b14.size
    clear b14 KV4 BEL13
    go_wp2_with fail
    refine KV5.out.mono ?_
    rintro e w15 ⟨rfl, b15⟩
    go_wp2_with fail
    go_ret
    exact ⟨rfl, BEL14.out.trans (b15.mono (by omega))⟩
  · have e0 : decide (0 < n) = true := decide_eq_true (by omega)
    have e0' : decide (0 < (n : Int)) = true := decide_eq_true (by omega)
    have hn200 : n ≤ 200 := by have := HLN.out; have := HN.out; omega
    obtain ⟨r, hr⟩ : ∃ r, k % (n : Int) = r := ⟨_, rfl⟩
    have hr0 := Int.emod_nonneg k (show (n : Int) ≠ 0 by omega)
    have hr1 := Int.emod_lt_of_pos k (show (0 : Int) < (n : Int) by omega)
    rw [hr] at hr0 hr1
    obtain ⟨i, rfl⟩ := Int.eq_ofNat_of_zero_le hr0
    have hin : i < n := by omega
    have KM := fun W => mod_any k n W (by omega) (by omega)
    rw [hr] at KM
    have KM := Lib.hid KM
    obtain ⟨q, hq⟩ : ∃ r, v % 3 = r := ⟨_, rfl⟩
    have hq0 := Int.emod_nonneg v (show (3 : Int) ≠ 0 by omega)
    have hq1 := Int.emod_lt_of_pos v (show (0 : Int) < (3 : Int) by omega)
    rw [hq] at hq0 hq1
    have KM3 := fun W => mod_any v 3 W (by omega) (by omega)
    rw [hq] at KM3
    have KM3 := Lib.hid KM3
    obtain ⟨t, ht⟩ : ∃ t, E[i]? = some t := ⟨_, List.getElem?_eq_getElem (by have := HN.out; omega)⟩
    have HT := Lib.hid ht
    have hqq : q = 0 ∨ q = 1 ∨ q = 2 := by omega
    clear hr hq ht hq0 hq1
    go_wp2_with (first
      | ((with_reducible refine go_evcopy (.tmp 24) (.tmp 25) w2.heap.size a2 c2 E (by with_unfolding_all rfl) (by with_unfolding_all exact Blk.new w2 _ _) (by rw [HN.out]; with_unfolding_all rfl) HNO.out (HAT.out.below ((Below.refl _ _).alloc (Nat.le_refl _) _)) (by have := HLN.out; omega) ?_); intro v5 w5 hown5 hgrow; have b5 := Lib.hid (((Below.refl w2.heap.size w2).alloc (Nat.le_refl _) (.cells #[] 28)).trans (below_of_grown hgrow (by simp) (by intro k hk; injection hk; omega))); obtain ⟨a5, c5, rfl, hat5, _, hbs⟩ := evs_form hown5; obtain ⟨g5, o5, rfl, hl5, _⟩ := hat5 i t HT.out; obtain ⟨rfl, hge⟩ := hbs g5 o5 rfl; have HOWN5 := Lib.hid hown5; rw [HN.out]; clear hat5 hbs; clear hown5 hgrow))
    have f0 : w5.frozen? ⟨g5, i * 3, none⟩ = false := HOWN5.out.frozenAt _
    have f1 : w5.frozen? ⟨g5, i * 3 + 1, none⟩ = false := HOWN5.out.frozenAt _
    have f2 : w5.frozen? ⟨g5, i * 3 + 2, none⟩ = false := HOWN5.out.frozenAt _
    have c0 : w5.cell? ⟨g5, i * 3, none⟩ = some (.int .i64 t.cy) := (by rw [HOWN5.out.cellAt _ (by have := HN.out; omega)]; exact evsC_at E i 0 t HT.out (by omega))
    have c1 : w5.cell? ⟨g5, i * 3 + 1, none⟩ = some (.int .i64 t.kd) := (by rw [HOWN5.out.cellAt _ (by have := HN.out; omega)]; exact evsC_at E i 1 t HT.out (by omega))
    have c2' : w5.cell? ⟨g5, i * 3 + 2, none⟩ = some (.int .i64 t.n) := (by rw [HOWN5.out.cellAt _ (by have := HN.out; omega)]; exact evsC_at E i 2 t HT.out (by omega))
    refine (KM.out w5).mono ?_
    rintro e w6 ⟨rfl, rfl⟩
    go_wp2_with fail
    refine (KM3.out w5).mono ?_
    rintro e w6 ⟨rfl, rfl⟩
    have B5 := BEL2.out.trans (b5.out.mono (by omega))
    have szs : ∀ (j : Nat) u, (w5.setCell ⟨g5, i * 3 + j, none⟩ u).heap.size = w5.heap.size := fun j u => by simp [World.setCell]
    have sz5 := b5.out.size
    have BS := Lib.hid (fun j u => B5.setCell (p := ⟨g5, i * 3 + j, none⟩) (by show w.heap.size ≤ g5; omega) u)
    have GS := Lib.hid (fun j u => HAT.out.below (b5.out.setCell (p := ⟨g5, i * 3 + j, none⟩) (by show w2.heap.size ≤ g5; omega) u))
    have ES := Lib.hid (fun j (hj : j < 3) => ev_stored HOWN5.out rfl HT.out hj v)
    have SZ := Lib.hid szs
    clear szs B5 HOWN5 KM KM3
    rcases hqq with rfl | rfl | rfl
    · have szW : (w5.setCell ⟨g5, i * 3, none⟩ (.int .i64 v)).heap.size = w5.heap.size := SZ.out 0 _
      have BEL10 := Lib.hid (BS.out 0 (.int .i64 v) : Below w.heap.size w (w5.setCell ⟨g5, i * 3, none⟩ (.int .i64 v)))
      have HG1 := Lib.hid (GS.out 0 (.int .i64 v) : EvsAt (w5.setCell ⟨g5, i * 3, none⟩ (.int .i64 v)) a2 E)
      obtain ⟨E', hE'⟩ : ∃ E', E.set i (evPut t 0 v) = E' := ⟨_, rfl⟩
      have HLN2E := Lib.hid (by rw [← hE', List.length_set]; exact HN.out : E'.length = n)
      have HLN2 := Lib.hid (by rw [HLN2E.out]; omega : E'.length ≤ 200)
      have hes : EvsAt (w5.setCell ⟨g5, i * 3, none⟩ (.int .i64 v)) (some ⟨g5, 0, none⟩) (E.set i (evPut t 0 v)) := ES.out 0 (by omega)
      rw [hE'] at hes
      have HG2 := Lib.hid hes
      clear hE' hes ES GS BS SZ
      have KV1 := Lib.hid (valid_any a2 c2 E (w5.setCell ⟨g5, i * 3, none⟩ (.int .i64 v)) HG1.out (by have := HLN.out; omega))
      rw [HN.out] at KV1
      go_wp2_with fail
      refine KV1.out.mono ?_
      rintro e w11 ⟨rfl, b11⟩
      have sz11 := b11.size
      have BEL11 := Lib.hid (BEL10.out.trans (b11.mono (by omega)))
      have KV2 := Lib.hid (valid_any (some ⟨g5, 0, none⟩) c5 E' w11 (HG2.out.below b11) (by have := HLN2.out; omega))
      have HG3 := Lib.hid (HG2.out.below b11)
      rw [HV.out]
      rw [HLN2E.out] at KV2
      clear b11 KV1 HG1 BEL10 HG2
      go_wp2_with fail
      refine KV2.out.mono ?_
      rintro e w12 ⟨rfl, b12⟩
      have sz12 := b12.size
      have BEL12 := Lib.hid (BEL11.out.trans (b12.mono (by omega)))
      have KV3 := Lib.hid (rvalid_any (some ⟨g5, 0, none⟩) c5 E' w12 (HG3.out.below b12) (by have := HLN2.out; omega))
      rw [HLN2E.out] at KV3
      clear b12 KV2 BEL11 HG3
      go_wp2_with fail
      refine KV3.out.mono ?_
      rintro e w13 ⟨rfl, b13⟩
      have sz13 := b13.size
      have BEL13 := Lib.hid (BEL12.out.trans (b13.mono (by omega)))
      have KV4 := Lib.hid (valid_any a0 cap0 raw w13 (HRAW.out.below BEL13.out) (by have := HRL.out; omega))
      rw [HRL.out] at KV4
      have q1 : (validE E' == validE E') = true := by simp
      clear b13 KV3 BEL12
      go_wp2_with fail
      refine KV4.out.mono ?_
      rintro e w14 ⟨rfl, b14⟩
      have BEL14 := Lib.hid (BEL13.out.trans (b14.mono (by omega)))
      have KV5 := Lib.hid (rvalid_any a0 cap0 raw w14 (HRAW.out.below BEL14.out) (by have := HRL.out; omega))
      rw [HRL.out] at KV5
      have q2 : (validE raw == validE raw) = true := by simp
      have sz14 := b14.size
      clear b14 KV4 BEL13
      go_wp2_with fail
      refine KV5.out.mono ?_
      rintro e w15 ⟨rfl, b15⟩
      go_wp2_with fail
      go_ret
      exact ⟨rfl, BEL14.out.trans (b15.mono (by omega))⟩
    · have szW : (w5.setCell ⟨g5, i * 3 + 1, none⟩ (.int .i64 v)).heap.size = w5.heap.size := SZ.out 1 _
      have BEL10 := Lib.hid (BS.out 1 (.int .i64 v) : Below w.heap.size w (w5.setCell ⟨g5, i * 3 + 1, none⟩ (.int .i64 v)))
      have HG1 := Lib.hid (GS.out 1 (.int .i64 v) : EvsAt (w5.setCell ⟨g5, i * 3 + 1, none⟩ (.int .i64 v)) a2 E)
      obtain ⟨E', hE'⟩ : ∃ E', E.set i (evPut t 1 v) = E' := ⟨_, rfl⟩
      have HLN2E := Lib.hid (by rw [← hE', List.length_set]; exact HN.out : E'.length = n)
      have HLN2 := Lib.hid (by rw [HLN2E.out]; omega : E'.length ≤ 200)
      have hes : EvsAt (w5.setCell ⟨g5, i * 3 + 1, none⟩ (.int .i64 v)) (some ⟨g5, 0, none⟩) (E.set i (evPut t 1 v)) := ES.out 1 (by omega)
      rw [hE'] at hes
      have HG2 := Lib.hid hes
      clear hE' hes ES GS BS SZ
      have KV1 := Lib.hid (valid_any a2 c2 E (w5.setCell ⟨g5, i * 3 + 1, none⟩ (.int .i64 v)) HG1.out (by have := HLN.out; omega))
      rw [HN.out] at KV1
      go_wp2_with fail
      refine KV1.out.mono ?_
      rintro e w11 ⟨rfl, b11⟩
      have sz11 := b11.size
      have BEL11 := Lib.hid (BEL10.out.trans (b11.mono (by omega)))
      have KV2 := Lib.hid (valid_any (some ⟨g5, 0, none⟩) c5 E' w11 (HG2.out.below b11) (by have := HLN2.out; omega))
      have HG3 := Lib.hid (HG2.out.below b11)
      rw [HV.out]
      rw [HLN2E.out] at KV2
      clear b11 KV1 HG1 BEL10 HG2
      go_wp2_with fail
      refine KV2.out.mono ?_
      rintro e w12 ⟨rfl, b12⟩
      have sz12 := b12.size
      have BEL12 := Lib.hid (BEL11.out.trans (b12.mono (by omega)))
      have KV3 := Lib.hid (rvalid_any (some ⟨g5, 0, none⟩) c5 E' w12 (HG3.out.below b12) (by have := HLN2.out; omega))
      rw [HLN2E.out] at KV3
      clear b12 KV2 BEL11 HG3
      go_wp2_with fail
      refine KV3.out.mono ?_
      rintro e w13 ⟨rfl, b13⟩
      have sz13 := b13.size
      have BEL13 := Lib.hid (BEL12.out.trans (b13.mono (by omega)))
      have KV4 := Lib.hid (valid_any a0 cap0 raw w13 (HRAW.out.below BEL13.out) (by have := HRL.out; omega))
      rw [HRL.out] at KV4
      have q1 : (validE E' == validE E') = true := by simp
      clear b13 KV3 BEL12
      go_wp2_with fail
      refine KV4.out.mono ?_
      rintro e w14 ⟨rfl, b14⟩
      have BEL14 := Lib.hid (BEL13.out.trans (b14.mono (by omega)))
      have KV5 := Lib.hid (rvalid_any a0 cap0 raw w14 (HRAW.out.below BEL14.out) (by have := HRL.out; omega))
      rw [HRL.out] at KV5
      have q2 : (validE raw == validE raw) = true := by simp
      have sz14 := b14.size
      clear b14 KV4 BEL13
      go_wp2_with fail
      refine KV5.out.mono ?_
      rintro e w15 ⟨rfl, b15⟩
      go_wp2_with fail
      go_ret
      exact ⟨rfl, BEL14.out.trans (b15.mono (by omega))⟩
    · have szW : (w5.setCell ⟨g5, i * 3 + 2, none⟩ (.int .i64 v)).heap.size = w5.heap.size := SZ.out 2 _
      have BEL10 := Lib.hid (BS.out 2 (.int .i64 v) : Below w.heap.size w (w5.setCell ⟨g5, i * 3 + 2, none⟩ (.int .i64 v)))
      have HG1 := Lib.hid (GS.out 2 (.int .i64 v) : EvsAt (w5.setCell ⟨g5, i * 3 + 2, none⟩ (.int .i64 v)) a2 E)
      obtain ⟨E', hE'⟩ : ∃ E', E.set i (evPut t 2 v) = E' := ⟨_, rfl⟩
      have HLN2E := Lib.hid (by rw [← hE', List.length_set]; exact HN.out : E'.length = n)
      have HLN2 := Lib.hid (by rw [HLN2E.out]; omega : E'.length ≤ 200)
      have hes : EvsAt (w5.setCell ⟨g5, i * 3 + 2, none⟩ (.int .i64 v)) (some ⟨g5, 0, none⟩) (E.set i (evPut t 2 v)) := ES.out 2 (by omega)
      rw [hE'] at hes
      have HG2 := Lib.hid hes
      clear hE' hes ES GS BS SZ
      have KV1 := Lib.hid (valid_any a2 c2 E (w5.setCell ⟨g5, i * 3 + 2, none⟩ (.int .i64 v)) HG1.out (by have := HLN.out; omega))
      rw [HN.out] at KV1
      go_wp2_with fail
      refine KV1.out.mono ?_
      rintro e w11 ⟨rfl, b11⟩
      have sz11 := b11.size
      have BEL11 := Lib.hid (BEL10.out.trans (b11.mono (by omega)))
      have KV2 := Lib.hid (valid_any (some ⟨g5, 0, none⟩) c5 E' w11 (HG2.out.below b11) (by have := HLN2.out; omega))
      have HG3 := Lib.hid (HG2.out.below b11)
      rw [HV.out]
      rw [HLN2E.out] at KV2
      clear b11 KV1 HG1 BEL10 HG2
      go_wp2_with fail
      refine KV2.out.mono ?_
      rintro e w12 ⟨rfl, b12⟩
      have sz12 := b12.size
      have BEL12 := Lib.hid (BEL11.out.trans (b12.mono (by omega)))
      have KV3 := Lib.hid (rvalid_any (some ⟨g5, 0, none⟩) c5 E' w12 (HG3.out.below b12) (by have := HLN2.out; omega))
      rw [HLN2E.out] at KV3
      clear b12 KV2 BEL11 HG3
      go_wp2_with fail
      refine KV3.out.mono ?_
      rintro e w13 ⟨rfl, b13⟩
      have sz13 := b13.size
      have BEL13 := Lib.hid (BEL12.out.trans (b13.mono (by omega)))
      have KV4 := Lib.hid (valid_any a0 cap0 raw w13 (HRAW.out.below BEL13.out) (by have := HRL.out; omega))
      rw [HRL.out] at KV4
      have q1 : (validE E' == validE E') = true := by simp
      clear b13 KV3 BEL12
      go_wp2_with fail
      refine KV4.out.mono ?_
      rintro e w14 ⟨rfl, b14⟩
      have BEL14 := Lib.hid (BEL13.out.trans (b14.mono (by omega)))
      have KV5 := Lib.hid (rvalid_any a0 cap0 raw w14 (HRAW.out.below BEL14.out) (by have := HRL.out; omega))
      rw [HRL.out] at KV5
      have q2 : (validE raw == validE raw) = true := by simp
      have sz14 := b14.size
      clear b14 KV4 BEL13
      go_wp2_with fail
      refine KV5.out.mono ?_
      rintro e w15 ⟨rfl, b15⟩
      go_wp2_with fail
      go_ret
      exact ⟨rfl, BEL14.out.trans (b15.mono (by omega))⟩
end Go.Proofs.YtkafmpgihhnhdaaDoor
