/-
  VarsPlays returns true. Its arguments: any script that lies in memory.
-/
import Derived.Test.YtdbhkpkndfhcoaaDoorStepB07
import Derived.Test.YtdbhkpkndfhcoaaDoorSame07
namespace Go.Proofs.YtdbhkpkndfhcoaaDoor
open Go Go.RowKit
set_option linter.unusedVariables false

theorem step_any (d : ActD) (x y : SD) {base s g c r q c2 : Nat} (w : World) (h : SAt w base s g c x) (k : TAt w base r q c2 y) (hA : ∀ W', Below base w W' → ArgsAt W' d.addr d.args) (hn : d.args.length ≤ 9223372036854775807) (ht : Lib.TabIs Tryd.prog w "cnc/vars.numbers" .i64 tabNums) (hb0 : 0 < base) (hxy : x = y ∨ d.what = 1 ∨ d.what = 2) :
    Calls Tryd.prog 24 #[.pointer (some ⟨s, 0, none⟩), .pointer (some ⟨r, 0, none⟩), .agg d.cells.toArray] w (StepPost d x y base s g r q w) := by
  by_cases e1 : d.what = 1
  · exact step_set d x y w h k hA hn ht hb0 e1
  · by_cases e2 : d.what = 2
    · exact step_host d x y w h k hA hn ht hb0 e2
    · obtain rfl : x = y := by rcases hxy with e | e | e; exact e; exact absurd e e1; exact absurd e e2
      by_cases e0 : d.what = 0
      · exact step_get d x w h k hA hn ht hb0 e0
      · by_cases e3 : d.what = 3
        · exact step_push d x w h k hA hn ht hb0 e3
        · by_cases e4 : d.what = 4
          · exact step_pop d x w h k hA hn ht hb0 e4
          · by_cases e5 : d.what = 5
            · exact step_copy d x w h k hA hn ht hb0 e5
            · exact step_else d x w h k hA hn ht hb0 ⟨e0, e1, e2, e3, e4, e5⟩
/-- An act of a script that lies below what has turned. -/
theorem act_at {w wr : World} {a : Option Addr} {L : List ActD} (hA : ActsAt w a L) (hb : Below w.heap.size w wr) {i : Nat} (hi : i < L.length) :
    ∃ d b o, L[i]? = some d ∧ a = some ⟨b, o, none⟩ ∧ (∀ j v, d.cells[j]? = some v → wr.cell? ⟨b, o + i * 5 + j, none⟩ = some v) ∧ (∀ W', Below w.heap.size wr W' → ArgsAt W' d.addr d.args) ∧ d.args.length ≤ 9223372036854775807 := by
  obtain ⟨d, hd⟩ : ∃ d, L[i]? = some d := ⟨_, List.getElem?_eq_getElem hi⟩
  obtain ⟨b, o, e, hl, hc, ha, hn⟩ := hA i d hd
  exact ⟨d, b, o, hd, e, fun j v hv => (hb.cell (p := ⟨b, o + i * 5 + j, none⟩) hl).trans (hc j v hv), fun W' hW => ha.below (hb.trans hW), hn⟩
theorem step_below {d : ActD} {x y : SD} {base s g r q B : Nat} {w w' : World} (h : Four s g r q w w') (hB : B ≤ w.heap.size) (h1 : B ≤ s) (h2 : B ≤ g) (h3 : B ≤ r) (h4 : B ≤ q) : Below B w w' := h.below hB h1 h2 h3 h4

set_option maxRecDepth 100000 in
set_option maxHeartbeats 1000000 in
theorem vplays_walk (a : Option Addr) (L : List ActD) (cp : Nat) (w : World) (hA : ActsAt w a L) (hl : L.length ≤ 9223372036854775807) (ht : Lib.TabIs Tryd.prog w "cnc/vars.numbers" .i64 tabNums) :
    Calls Tryd.prog 6 #[.slice a L.length cp] w fun e w' => e = .returned (.bool true) ∧ Below w.heap.size w w' := by
  have hw0 := tab_pos ht
  have KF := few_any a L cp w hA hl
  generalize fewB L = fb at KF
  have KF := Lib.hid KF
  cases fb
  · have KA := Lib.hid (awake_true w ht)
    go_enter Tryd.func6, Tryd.ntmps6
    go_wp2_with fail
    refine KF.out.mono ?_
    rintro e w' ⟨rfl, rfl⟩
    go_wp2_with fail
    refine KA.out.mono ?_
    rintro e w1 ⟨rfl, b1⟩
    go_wp2_with fail
    go_ret
    exact ⟨rfl, b1⟩
  · have KN := Lib.hid (new_any w)
    go_enter Tryd.func6, Tryd.ntmps6
    go_wp2_with fail
    refine KF.out.mono ?_
    rintro e w' ⟨rfl, rfl⟩
    go_wp2_with fail
    refine KN.out.mono ?_
    rintro e w1 ⟨s, g, rfl, h1, b1⟩
    have KR := Lib.hid (rnew_any w1)
    have H1 := Lib.hid h1
    clear h1 KN KF
    go_wp2_with fail
    refine KR.out.mono ?_
    rintro e w2 ⟨r, q, rfl, k2, b2'⟩
    have b2 := b1.trans (b2'.mono b1.size)
    have H2 : Hid (SAt w2 w.heap.size s g 1 ⟨1, List.replicate 33 0, fun _ => 0⟩) := Lib.hid (StAt.below H1.out b2')
    have K2 : Hid (TAt w2 w.heap.size r q 1 ⟨1, List.replicate 33 0, fun _ => 0⟩) := Lib.hid (TAt.lower k2 b1.size)
    have KA := Lib.hid (awake_true w2 (tab_below ht b2 hw0))
    clear b2' k2 KR H1 b1
    go_wp2_with fail
    refine KA.out.mono ?_
    rintro e w3 ⟨rfl, b3'⟩
    have b3 := b2.trans (b3'.mono b2.size)
    have H3 := Lib.hid (H2.out.below b3')
    have K3 := Lib.hid (K2.out.below b3')
    have KS := Lib.hid (same_any w3 H3.out K3.out)
    clear b3' H2 K2 KA b2
    go_wp2_with fail
    refine KS.out.mono ?_
    rintro e w4 ⟨rfl, b4'⟩
    have b4 := b3.trans (b4'.mono b3.size)
    have H4 := Lib.hid (H3.out.below b4')
    have K4 := Lib.hid (K3.out.below b4')
    clear b4' H3 K3 KS b3
    go_wp2_with fail
    go_loopw [3, 5] (fun s3 s5 wr => ∃ (i s g c q c2 : Nat) (x : SD), i ≤ L.length ∧ s5 = .int .i64 i ∧ s3 = .pointer (some ⟨s, 0, none⟩) ∧ SAt wr w.heap.size s g c x ∧ TAt wr w.heap.size r q c2 x ∧ Below w.heap.size w wr)
      (fun _ s5 _ => L.length - (intOf s5).toNat)
    case atStart => exact ⟨0, s, g, 1, q, 1, _, by omega, rfl, rfl, H4.out, K4.out, b4⟩
    case round =>
      obtain ⟨i, s, g, c, q, c2, x, hi, rfl, rfl, h, k, bel⟩ := hrel
      by_cases hlt : i < L.length
      · obtain ⟨d, b, o, hd, rfl, hc, hAd, hn⟩ := act_at hA bel hlt
        have i0 : (0 : Int) ≤ (i : Int) := by omega
        have i1 : (i : Int) < (L.length : Int) := by omega
        have d1 : decide (i < L.length) = true := by simp; omega
        have KS := Lib.hid (step_any d x x wr h k hAd hn (tab_below ht bel hw0) hw0 (.inl rfl))
        have c0 := hc 0 _ rfl
        have c1 := hc 1 _ rfl
        have z2 := hc 2 _ rfl
        have c3 := hc 3 _ rfl
        have c4 := hc 4 _ rfl
        have hbd := h.bounds
        have kbd := k.bounds
        rw [Nat.add_zero] at c0
        simp only [ActD.cells] at KS
        clear hc h k H4 K4 b4 hAd hA ht hd
        go_wp2_with fail
        refine KS.out.mono ?_
        rintro e w5 ⟨s', g', c', q', c2', rfl, h', k', _, hf, _⟩
        have b5 := bel.trans (hf.below (by omega) (by omega) (by omega) (by omega) (by omega))
        have H5 := Lib.hid h'
        have K5 := Lib.hid k'
        have KM := Lib.hid (same_any w5 h' k')
        clear h' k' hf bel KS c0 c1 z2 c3 c4
        go_wp2_with fail
        refine KM.out.mono ?_
        rintro e w6 ⟨rfl, b6'⟩
        have b6 := b5.trans (b6'.mono b5.size)
        have H6 := Lib.hid (H5.out.below b6')
        have K6 := Lib.hid (K5.out.below b6')
        clear b6' H5 K5 KM b5
        go_wp2_with fail
        go_roundw
        case rel => exact ⟨i + 1, s', g', c', q', c2', _, by omega, by go_num, rfl, H6.out, K6.out, b6⟩
        case measure => simp [intOf]; omega
      · have d1 : decide (i < L.length) = false := by simp; omega
        go_wp2_with fail
        go_ret
        exact ⟨rfl, bel⟩
end Go.Proofs.YtdbhkpkndfhcoaaDoor
