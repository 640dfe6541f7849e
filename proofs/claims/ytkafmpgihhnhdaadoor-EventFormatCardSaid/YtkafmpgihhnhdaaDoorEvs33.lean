/-
  Events in memory; event.Valid and cncref33.Valid: whether a list is valid. Any list.
-/
import Derived.Test.YtkafmpgihhnhdaaDoorPlan33
import Derived.Test.YtkafmpgihhnhdaaDoorTab
import Derived.Test.YtkafmpgihhnhdaaDoorBuild
import Derived.Test.YtkafmpgihhnhdaaDoorChecked
import Derived.Lib.Hide
namespace Go.Proofs.YtkafmpgihhnhdaaDoor
open Go Go.RowKit
set_option linter.unusedVariables false

/-- The events lie in memory. -/
def EvsAt (W : World) (a : Option Addr) (l : List Ev) : Prop := ∀ i t, l[i]? = some t → ∃ b o, a = some ⟨b, o, none⟩ ∧ b < W.heap.size ∧ ∀ j v, (evC t)[j]? = some v → W.cell? ⟨b, o + i * 3 + j, none⟩ = some v
theorem EvsAt.below {W W' : World} {a : Option Addr} {l : List Ev} (h : EvsAt W a l) (hb : Below W.heap.size W W') : EvsAt W' a l := fun i t hi => by
  obtain ⟨b, o, e, hl, hc⟩ := h i t hi
  exact ⟨b, o, e, by have := hb.size; omega, fun j v hv => (hb.cell (p := ⟨b, o + i * 3 + j, none⟩) hl).trans (hc j v hv)⟩
theorem EvsAt.nil (W : World) (a : Option Addr) : EvsAt W a [] := fun i t hi => by simp at hi
theorem evs_own {W : World} {base : Nat} {v : Value} {l : List Ev} (h : W.ownsRow base 28 3 v l.length (evsC l)) : ∃ a c, v = .slice a l.length c ∧ EvsAt W a l ∧ (a = none → l.length = 0) := by
  rcases h.2 with ⟨rfl, e⟩ | ⟨g, cap, cur, rfl, hb, _⟩
  · refine ⟨none, 0, by rw [e], fun i t hi => ?_, fun _ => e⟩
    have := (List.getElem?_eq_some_iff.1 hi).1
    omega
  · refine ⟨_, _, rfl, fun i t hi => ⟨g, 0, rfl, (h.lt g rfl).2, fun j v hv => ?_⟩, fun e => by cases e⟩
    have hlt := (List.getElem?_eq_some_iff.1 hi).1
    have hj : j < 3 := (List.getElem?_eq_some_iff.1 hv).1
    rw [Nat.zero_add, h.cellAt _ (by omega), evsC_at l i j t hi hj]
    exact hv
/-- A list that came in. -/
theorem evs_tab {W : World} {a : Option Addr} {len cap : Nat} (h : Leaf W (.tab [.int .i64, .int .i64, .int .i64]) (.slice a len cap)) : ∃ l : List Ev, l.length = len ∧ EvsAt W a l ∧ len ≤ 9223372036854775807 := by
  obtain ⟨f, hT, hL, hmax, _⟩ := TabAt.of_leaf (C := 3) h rfl (by omega)
  have hev : ∀ i, i < len → ∃ e : Ev, f i = evC e := fun i hi => by
    have hl := hL i hi
    obtain ⟨hlen, _⟩ := hT i hi
    match f i, hl, hlen with
    | [x, y, z], hl, _ =>
      obtain ⟨h1, h2, h3, _⟩ := hl
      cases h1
      cases h2
      cases h3
      exact ⟨⟨_, _, _⟩, rfl⟩
  have hch : ∃ g : Nat → Ev, ∀ i, i < len → f i = evC (g i) := by
    refine ⟨fun i => if hi : i < len then Classical.choose (hev i hi) else ⟨0, 0, 0⟩, fun i hi => ?_⟩
    simp only [hi, dif_pos]
    exact Classical.choose_spec (hev i hi)
  obtain ⟨g, hg⟩ := hch
  refine ⟨(List.range len).map g, by simp, fun i t hi => ?_, hmax⟩
  obtain ⟨hil, e⟩ := List.getElem?_eq_some_iff.1 hi
  simp at hil e
  obtain ⟨_, b, o, ea, hlt, hc⟩ := hT i hil
  refine ⟨b, o, ea, hlt, fun j v hv => ?_⟩
  have hj : j < 3 := (List.getElem?_eq_some_iff.1 hv).1
  rw [hc j hj, hg i hil, e]
  exact hv

theorem good_no {last : Int} {e : Ev} (h : evGood last e = false) : decide (e.cy < last) = true ∨ (decide (e.cy < last) = false ∧ decide (1073741824 < e.cy) = true) ∨ (decide (e.cy < last) = false ∧ decide (1073741824 < e.cy) = false ∧ decide (e.kd < 1) = true) ∨
    (decide (e.cy < last) = false ∧ decide (1073741824 < e.cy) = false ∧ decide (e.kd < 1) = false ∧ decide (13 < e.kd) = true) ∨
    (decide (e.cy < last) = false ∧ decide (1073741824 < e.cy) = false ∧ decide (e.kd < 1) = false ∧ decide (13 < e.kd) = false ∧ decide (e.n < -1073741824) = true) ∨
    (decide (e.cy < last) = false ∧ decide (1073741824 < e.cy) = false ∧ decide (e.kd < 1) = false ∧ decide (13 < e.kd) = false ∧ decide (e.n < -1073741824) = false ∧ decide (1073741824 < e.n) = true) := by
  unfold evGood at h
  have h := of_decide_eq_false h
  simp only [decide_eq_true_eq, decide_eq_false_iff_not]
  omega
theorem good_yes {last : Int} {e : Ev} (h : evGood last e = true) : decide (e.cy < last) = false ∧ decide (1073741824 < e.cy) = false ∧ decide (e.kd < 1) = false ∧ decide (13 < e.kd) = false ∧ decide (e.n < -1073741824) = false ∧ decide (1073741824 < e.n) = false := by
  unfold evGood at h
  have h := of_decide_eq_true h
  simp only [decide_eq_false_iff_not]
  omega
set_option maxRecDepth 100000 in
set_option maxHeartbeats 1000000 in
theorem valid_any (a : Option Addr) (c : Nat) (l : List Ev) (w : World) (h : EvsAt w a l) (hn : l.length ≤ 9223372036854775807) :
    Calls Tryd.prog 12 #[.slice a l.length c] w fun e w' => e = .returned (.bool (validE l)) ∧ Below w.heap.size w w' := by
  obtain ⟨n, hln⟩ : ∃ n, l.length = n := ⟨_, rfl⟩
  by_cases h20 : 2000 < n
  · have d1 : decide (2000 < n) = true := by simpa using h20
    have d1' : decide (2000 < (n : Int)) = true := by simp; omega
    have R : validE l = false := by unfold validE; rw [hln, decide_eq_false (by omega)]; rfl
    have R := Lib.hid R
    rw [hln]
    clear hln hn h20 h
    go_enter Tryd.func12, Tryd.ntmps12
    go_wp2
    go_ret
    exact ⟨by rw [R.out]; rfl, Below.refl _ _⟩
  · have d1 : decide (2000 < n) = false := by simpa using h20
    have d1' : decide (2000 < (n : Int)) = false := by simp; omega
    have R : validE l = validG l 0 := by unfold validE; rw [hln, decide_eq_true (by omega)]; rfl
    have R := Lib.hid R
    have HG := Lib.hid (fun k (hk : k < n) => (⟨l[k]'(by omega), List.getElem?_eq_getElem _⟩ : ∃ x, l[k]? = some x))
    have HLN := Lib.hid hln
    have H := Lib.hid h
    rw [hln]
    clear hln hn h
    go_enter Tryd.func12, Tryd.ntmps12
    go_wp2
    go_loopw [3, 11] (fun s3 s11 wr => ∃ (k : Nat) (last : Int), k ≤ n ∧ s3 = .int .i64 last ∧ s11 = .int .i64 k ∧ validG l 0 = validG (l.drop k) last ∧ Below w.heap.size w wr)
      (fun _ s11 _ => n - (intOf s11).toNat)
    case atStart => exact ⟨0, 0, by omega, rfl, rfl, by rw [List.drop_zero], Below.refl _ _⟩
    case round =>
      obtain ⟨k, last, hk, rfl, rfl, hv, bel⟩ := hrel
      have hsz := bel.size
      by_cases hlt : k < n
      · obtain ⟨x, hx⟩ := HG.out k hlt
        have e1 : decide (k < n) = true := by simpa using hlt
        have hst := validG_drop hx last
        rw [← hv] at hst
        obtain ⟨b, o, rfl, _, hc⟩ := H.out.below bel k x hx
        obtain ⟨cy, kd, nn⟩ := x
        have c0 := hc 0 _ rfl
        have c1 := hc 1 _ rfl
        have c2 := hc 2 _ rfl
        simp only [Nat.add_zero] at c0 c1 c2
        have i1 : (0 : Int) ≤ (k : Int) := by omega
        have i2 : (k : Int) < (n : Int) := by omega
        have BEL := Lib.hid bel
        cases hg : evGood last ⟨cy, kd, nn⟩
        · have hb := good_no hg
          rw [hg, Bool.false_and] at hst
          have R2 : validE l = false := R.out.trans hst
          have R2 := Lib.hid R2
          simp only at hb
          clear hg hst hv hx hc bel
          rcases hb with q1 | ⟨q1, q2⟩ | ⟨q1, q2, q3⟩ | ⟨q1, q2, q3, q4⟩ | ⟨q1, q2, q3, q4, q5⟩ | ⟨q1, q2, q3, q4, q5, q6⟩
          all_goals
            go_wp2
            go_ret
            exact ⟨by rw [R2.out]; rfl, BEL.out.alloc (by omega) _⟩
        · obtain ⟨q1, q2, q3, q4, q5, q6⟩ := good_yes hg
          rw [hg, Bool.true_and] at hst
          have HST := Lib.hid hst
          simp only at q1 q2 q3 q4 q5 q6
          clear hg hst hv hx hc bel
          go_wp2
          go_roundw
          case rel => exact ⟨k + 1, cy, by omega, rfl, by go_num, HST.out, BEL.out.alloc (by omega) _⟩
          case measure => simp [intOf]; omega
      · obtain rfl : k = n := by omega
        have e1 : decide (k < k) = false := by simp
        rw [validG_end (by have := HLN.out; omega)] at hv
        have R2 : validE l = true := R.out.trans hv
        have R2 := Lib.hid R2
        clear hv
        go_wp2
        go_ret
        exact ⟨by rw [R2.out]; rfl, bel⟩
set_option maxRecDepth 100000 in
set_option maxHeartbeats 1000000 in
theorem rvalid_any (a : Option Addr) (c : Nat) (l : List Ev) (w : World) (h : EvsAt w a l) (hn : l.length ≤ 9223372036854775807) :
    Calls Tryd.prog 13 #[.slice a l.length c] w fun e w' => e = .returned (.bool (validE l)) ∧ Below w.heap.size w w' := by
  obtain ⟨n, hln⟩ : ∃ n, l.length = n := ⟨_, rfl⟩
  by_cases h20 : 2000 < n
  · have d1 : decide (2000 < n) = true := by simpa using h20
    have d1' : decide (2000 < (n : Int)) = true := by simp; omega
    have R : validE l = false := by unfold validE; rw [hln, decide_eq_false (by omega)]; rfl
    have R := Lib.hid R
    rw [hln]
    clear hln hn h20 h
    go_enter Tryd.func13, Tryd.ntmps13
    go_wp2
    go_ret
    exact ⟨by rw [R.out]; rfl, Below.refl _ _⟩
  · have d1 : decide (2000 < n) = false := by simpa using h20
    have d1' : decide (2000 < (n : Int)) = false := by simp; omega
    have R : validE l = validG l 0 := by unfold validE; rw [hln, decide_eq_true (by omega)]; rfl
    have R := Lib.hid R
    have HG := Lib.hid (fun k (hk : k < n) => (⟨l[k]'(by omega), List.getElem?_eq_getElem _⟩ : ∃ x, l[k]? = some x))
    have HLN := Lib.hid hln
    have H := Lib.hid h
    rw [hln]
    clear hln hn h
    go_enter Tryd.func13, Tryd.ntmps13
    go_wp2
    go_loopw [3, 11] (fun s3 s11 wr => ∃ (k : Nat) (last : Int), k ≤ n ∧ s3 = .int .i64 last ∧ s11 = .int .i64 k ∧ validG l 0 = validG (l.drop k) last ∧ Below w.heap.size w wr)
      (fun _ s11 _ => n - (intOf s11).toNat)
    case atStart => exact ⟨0, 0, by omega, rfl, rfl, by rw [List.drop_zero], Below.refl _ _⟩
    case round =>
      obtain ⟨k, last, hk, rfl, rfl, hv, bel⟩ := hrel
      have hsz := bel.size
      by_cases hlt : k < n
      · obtain ⟨x, hx⟩ := HG.out k hlt
        have e1 : decide (k < n) = true := by simpa using hlt
        have hst := validG_drop hx last
        rw [← hv] at hst
        obtain ⟨b, o, rfl, _, hc⟩ := H.out.below bel k x hx
        obtain ⟨cy, kd, nn⟩ := x
        have c0 := hc 0 _ rfl
        have c1 := hc 1 _ rfl
        have c2 := hc 2 _ rfl
        simp only [Nat.add_zero] at c0 c1 c2
        have i1 : (0 : Int) ≤ (k : Int) := by omega
        have i2 : (k : Int) < (n : Int) := by omega
        have BEL := Lib.hid bel
        cases hg : evGood last ⟨cy, kd, nn⟩
        · have hb := good_no hg
          rw [hg, Bool.false_and] at hst
          have R2 : validE l = false := R.out.trans hst
          have R2 := Lib.hid R2
          simp only at hb
          clear hg hst hv hx hc bel
          rcases hb with q1 | ⟨q1, q2⟩ | ⟨q1, q2, q3⟩ | ⟨q1, q2, q3, q4⟩ | ⟨q1, q2, q3, q4, q5⟩ | ⟨q1, q2, q3, q4, q5, q6⟩
          all_goals
            go_wp2
            go_ret
            exact ⟨by rw [R2.out]; rfl, BEL.out.alloc (by omega) _⟩
        · obtain ⟨q1, q2, q3, q4, q5, q6⟩ := good_yes hg
          rw [hg, Bool.true_and] at hst
          have HST := Lib.hid hst
          simp only at q1 q2 q3 q4 q5 q6
          clear hg hst hv hx hc bel
          go_wp2
          go_roundw
          case rel => exact ⟨k + 1, cy, by omega, rfl, by go_num, HST.out, BEL.out.alloc (by omega) _⟩
          case measure => simp [intOf]; omega
      · obtain rfl : k = n := by omega
        have e1 : decide (k < k) = false := by simp
        rw [validG_end (by have := HLN.out; omega)] at hv
        have R2 : validE l = true := R.out.trans hv
        have R2 := Lib.hid R2
        clear hv
        go_wp2
        go_ret
        exact ⟨by rw [R2.out]; rfl, bel⟩
end Go.Proofs.YtkafmpgihhnhdaaDoor
