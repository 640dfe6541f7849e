/-
  VarsCopies returns true. Its arguments: any scripts that lie in memory.
-/
import Derived.Test.YtdbhkpkndfhcoaaDoorDoor07
namespace Go.Proofs.YtdbhkpkndfhcoaaDoor
open Go Go.RowKit
set_option linter.unusedVariables false

theorem ne_new {a b c H : Nat} (e : a = b ∨ H ≤ a) (n : b ≠ c) (h : c < H) : a ≠ c := by rcases e with e | e; (rw [e]; exact n); omega
section
variable {W W' : World} {base base' s g r q c c2 s2 g2 r2 q2 d d2 : Nat} {x y : SD}
theorem SAt.cross (h : SAt W base s g c x) (k : SAt W base' s2 g2 d y) : s ≠ g2 ∧ g ≠ s2 := by
  obtain ⟨_, hg⟩ := own_blk h.2.1
  obtain ⟨_, kg⟩ := own_blk k.2.1
  exact ⟨blk_ne h.1 kg (by decide), blk_ne hg k.1 (by decide)⟩
theorem TAt.cross (h : TAt W base s g c x) (k : TAt W base' s2 g2 d y) : s ≠ g2 ∧ g ≠ s2 := by
  obtain ⟨_, hg⟩ := own_blk h.2.1
  obtain ⟨_, kg⟩ := own_blk k.2.1
  exact ⟨blk_ne h.1 kg (by decide), blk_ne hg k.1 (by decide)⟩
/-- Two stores and two references, all apart. -/
def Quad (W : World) (B s g c r q c2 : Nat) (x : SD) (s2 g2 d r2 q2 d2 : Nat) (y : SD) : Prop :=
  SAt W B s g c x ∧ TAt W B r q c2 x ∧ SAt W B s2 g2 d y ∧ TAt W B r2 q2 d2 y ∧ s ≠ s2 ∧ g ≠ g2 ∧ r ≠ r2 ∧ q ≠ q2
theorem Quad.below (h : Quad W base s g c r q c2 x s2 g2 d r2 q2 d2 y) (hb : Below W.heap.size W W') : Quad W' base s g c r q c2 x s2 g2 d r2 q2 d2 y :=
  ⟨h.1.below hb, h.2.1.below hb, h.2.2.1.below hb, h.2.2.2.1.below hb, h.2.2.2.2⟩
theorem Quad.swap (h : Quad W base s g c r q c2 x s2 g2 d r2 q2 d2 y) : Quad W base s2 g2 d r2 q2 d2 y s g c r q c2 x := by
  obtain ⟨h1, h2, h3, h4, n1, n2, n3, n4⟩ := h
  exact ⟨h3, h4, h1, h2, n1.symm, n2.symm, n3.symm, n4.symm⟩
theorem Quad.step {a : ActD} {e : Ending} (h : Quad W base s g c r q c2 x s2 g2 d r2 q2 d2 y) (hn : a.what ≠ 5) (hp : StepPost a x x base s g r q W e W') :
    e = .returned (.tuple #[.pointer (some ⟨s, 0, none⟩), .bool true]) ∧ (∃ g' c' q' c2', Quad W' base s g' c' r q' c2' (afterS a x) s2 g2 d r2 q2 d2 y) ∧ Below base W W' := by
  obtain ⟨h1, h2, h3, h4, n1, n2, n3, n4⟩ := h
  obtain ⟨s', g', c', q', c2', rfl, k1, k2, es, hf, _, eg, eq⟩ := hp
  obtain rfl := es hn
  have b1 := h1.bounds
  have b2 := h2.bounds
  have b3 := h3.bounds
  have b4 := h4.bounds
  obtain ⟨a1, a2, a3, a4⟩ := h1.apart h4
  obtain ⟨a5, a6, a7, a8⟩ := h3.apart h2
  obtain ⟨a9, a10⟩ := h1.cross h3
  obtain ⟨a11, a12⟩ := h2.cross h4
  refine ⟨rfl, ⟨g', c', q', c2', k1, k2, h3.kept (hf.block _ b3.2.1 n1.symm a10.symm a5 a6) (hf.block _ b3.2.2.2.1 a9.symm n2.symm a7 a8), h4.kept (hf.block _ b4.2.1 a1.symm a3.symm n3.symm a12.symm) (hf.block _ b4.2.2.2.1 a2.symm a4.symm a11.symm n4.symm), n1, ne_new eg n2 b3.2.2.2.1, n3, ne_new eq n4 b4.2.2.2.1⟩, hf.below (Nat.le_trans b1.1 (Nat.le_of_lt b1.2.1)) b1.1 b1.2.2.1 b2.1 b2.2.2.1⟩
end

set_option maxRecDepth 100000 in
set_option maxHeartbeats 4000000 in
theorem vcopies_walk (a a1 a2 : Option Addr) (L L1 L2 : List ActD) (cp cp1 cp2 : Nat) (w : World) (hA : ActsAt w a L) (hl : L.length ≤ 9223372036854775807) (hA1 : ActsAt w a1 L1) (hl1 : L1.length ≤ 9223372036854775807) (hA2 : ActsAt w a2 L2) (hl2 : L2.length ≤ 9223372036854775807) (ht : Lib.TabIs Tryd.prog w "cnc/vars.numbers" .i64 tabNums) :
    Calls Tryd.prog 8 #[.slice a L.length cp, .slice a1 L1.length cp1, .slice a2 L2.length cp2] w fun e w' => e = .returned (.bool true) ∧ Below w.heap.size w w' := by
  have hw0 := tab_pos ht
  have KF := few_any a L cp w hA hl
  have KF1 := few_any a1 L1 cp1 w hA1 hl1
  have KF2 := few_any a2 L2 cp2 w hA2 hl2
  generalize fewB L = fb at KF
  generalize fewB L1 = fb1 at KF1
  generalize fewB L2 = fb2 at KF2
  have KF := Lib.hid KF
  have KF1 := Lib.hid KF1
  have KF2 := Lib.hid KF2
  by_cases hf : fb = true ∧ fb1 = true ∧ fb2 = true
  case neg =>
    have KA := Lib.hid (awake_true w ht)
    have hcs : fb = false ∨ (fb = true ∧ fb1 = false) ∨ (fb = true ∧ fb1 = true ∧ fb2 = false) := by
      cases fb <;> cases fb1 <;> cases fb2 <;> simp at hf ⊢
    clear hf
    rcases hcs with rfl | ⟨rfl, rfl⟩ | ⟨rfl, rfl, rfl⟩
    · go_enter Tryd.func8, Tryd.ntmps8
      go_wp2_with fail
      refine KF.out.mono ?_
      rintro e w' ⟨rfl, rfl⟩
      go_wp2_with fail
      refine KA.out.mono ?_
      rintro e w1 ⟨rfl, b1⟩
      go_wp2_with fail
      go_ret
      exact ⟨rfl, b1⟩
    · go_enter Tryd.func8, Tryd.ntmps8
      go_wp2_with fail
      refine KF.out.mono ?_
      rintro e w' ⟨rfl, rfl⟩
      go_wp2_with fail
      refine KF1.out.mono ?_
      rintro e w' ⟨rfl, rfl⟩
      go_wp2_with fail
      refine KA.out.mono ?_
      rintro e w1 ⟨rfl, b1⟩
      go_wp2_with fail
      go_ret
      exact ⟨rfl, b1⟩
    · go_enter Tryd.func8, Tryd.ntmps8
      go_wp2_with fail
      refine KF.out.mono ?_
      rintro e w' ⟨rfl, rfl⟩
      go_wp2_with fail
      refine KF1.out.mono ?_
      rintro e w' ⟨rfl, rfl⟩
      go_wp2_with fail
      refine KF2.out.mono ?_
      rintro e w' ⟨rfl, rfl⟩
      go_wp2_with fail
      refine KA.out.mono ?_
      rintro e w1 ⟨rfl, b1⟩
      go_wp2_with fail
      go_ret
      exact ⟨rfl, b1⟩
  obtain ⟨rfl, rfl, rfl⟩ := hf
  have KN := Lib.hid (new_any w)
  go_enter Tryd.func8, Tryd.ntmps8
  go_wp2_with fail
  refine KF.out.mono ?_
  rintro e w' ⟨rfl, rfl⟩
  go_wp2_with fail
  refine KF1.out.mono ?_
  rintro e w' ⟨rfl, rfl⟩
  go_wp2_with fail
  refine KF2.out.mono ?_
  rintro e w' ⟨rfl, rfl⟩
  go_wp2_with fail
  refine KN.out.mono ?_
  rintro e w1 ⟨s, g, rfl, h1, b1⟩
  have KR := Lib.hid (rnew_any w1)
  have H1 := Lib.hid h1
  clear h1 KN KF KF1 KF2
  go_wp2_with fail
  refine KR.out.mono ?_
  rintro e w2 ⟨r, q, rfl, k2, b2'⟩
  have b2 := b1.trans (b2'.mono b1.size)
  have H2 : Hid (SAt w2 w.heap.size s g 1 ⟨1, List.replicate 33 0, fun _ => 0⟩) := Lib.hid (StAt.below H1.out b2')
  have K2 : Hid (TAt w2 w.heap.size r q 1 ⟨1, List.replicate 33 0, fun _ => 0⟩) := Lib.hid (TAt.lower k2 b1.size)
  have KA := Lib.hid (awake_true w2 (tab_below ht b2 hw0))
  clear b2' k2 KR H1 b1
  go_wp2_with fail
  refine KA.out.mono ?_
  rintro e w3 ⟨rfl, b3'⟩
  have b3 := b2.trans (b3'.mono b2.size)
  have H3 := Lib.hid (H2.out.below b3')
  have K3 := Lib.hid (K2.out.below b3')
  clear b3' H2 K2 KA b2
  go_wp2_with fail
  go_loopw [9] (fun s9 wr => ∃ (i g c q c2 : Nat) (x : SD), i ≤ L.length ∧ s9 = .int .i64 i ∧ SAt wr w.heap.size s g c x ∧ TAt wr w.heap.size r q c2 x ∧ Below w.heap.size w wr)
    (fun s9 _ => L.length - (intOf s9).toNat)
  case atStart => exact ⟨0, g, 1, q, 1, _, by omega, rfl, H3.out, K3.out, b3⟩
  case round =>
    obtain ⟨i, g, c, q, c2, x, hi, rfl, h, k, bel⟩ := hrel
    by_cases hlt : i < L.length
    · obtain ⟨d, b, o, hd, rfl, hc, hAd, hn⟩ := act_at hA bel hlt
      have i0 : (0 : Int) ≤ (i : Int) := by omega
      have i1 : (i : Int) < (L.length : Int) := by omega
      have d1 : decide (i < L.length) = true := by simp; omega
      have KS := Lib.hid (step_any d x x wr h k hAd hn (tab_below ht bel hw0) hw0 (.inl rfl))
      have c0 := hc 0 _ rfl
      have c1 := hc 1 _ rfl
      have z2 := hc 2 _ rfl
      have c3 := hc 3 _ rfl
      have c4 := hc 4 _ rfl
      have hbd := h.bounds
      have kbd := k.bounds
      rw [Nat.add_zero] at c0
      simp only [ActD.cells] at KS
      have H := Lib.hid h
      have K := Lib.hid k
      clear hc h k H3 K3 b3 hAd hA ht hd hA1 hA2
      by_cases h5 : d.what = 5
      · have n5 : (d.what != 5) = false := by rw [h5]; rfl
        have N5 := Lib.hid n5
        rw [h5] at c0
        clear h5 n5 KS
        go_wp2_with fail
        go_roundw
        case rel => exact ⟨i + 1, g, c, q, c2, _, by omega, by go_num, H.out, K.out, bel⟩
        case measure => simp [intOf]; omega
      · have n5 : (d.what != 5) = true := by rw [bne_iff_ne]; exact h5
        have H5 := Lib.hid h5
        clear h5
        go_wp2_with fail
        refine KS.out.mono ?_
        rintro e w5 ⟨s', g', c', q', c2', rfl, h', k', es, hf, _⟩
        obtain rfl := es H5.out
        have b5 := bel.trans (hf.below (by omega) (by omega) (by omega) (by omega) (by omega))
        have H5 := Lib.hid h'
        have K5 := Lib.hid k'
        clear h' k' hf bel KS c0 c1 z2 c3 c4 H K
        go_wp2_with fail
        go_roundw
        case rel => exact ⟨i + 1, g', c', q', c2', _, by omega, by go_num, H5.out, K5.out, b5⟩
        case measure => simp [intOf]; omega
    · have d1 : decide (i < L.length) = false := by simp; omega
      have KC := Lib.hid (copy_any wr h)
      have hbd := h.bounds
      have kbd := k.bounds
      have H := Lib.hid h
      have K := Lib.hid k
      clear h k H3 K3 b3 hA
      go_wp2_with fail
      refine KC.out.mono ?_
      rintro e w4 ⟨s2, g2, d, rfl, h4, b4'⟩
      have KQ := Lib.hid (rcopy_any w4 (K.out.below b4'))
      have hs4 : wr.heap.size ≤ s2 := h4.2.2.2.1
      have hg4 : wr.heap.size ≤ g2 := h4.baseg.1
      have hsz4 := b4'.size
      have H4 := Lib.hid h4
      have b4 := bel.trans (b4'.mono bel.size)
      have HH := Lib.hid (H.out.below b4')
      have KK := Lib.hid (K.out.below b4')
      clear h4 b4' KC H K
      go_wp2_with fail
      refine KQ.out.mono ?_
      rintro e w5 ⟨r2, q2, d2, rfl, k5, b5'⟩
      have hr5 : w4.heap.size ≤ r2 := k5.2.2.2.1
      have hq5 : w4.heap.size ≤ q2 := k5.baseg.1
      have b5 := b4.trans (b5'.mono b4.size)
      have hszr := bel.size
      have QQ : Hid (Quad w5 w.heap.size s g c r q c2 x s2 g2 d r2 q2 d2 x) := Lib.hid ⟨HH.out.below b5', KK.out.below b5', SAt.below (SAt.lower H4.out hszr) b5', TAt.lower k5 (by omega), by omega, by omega, by omega, by omega⟩
      clear k5 b5' HH KK H4 KQ bel b4
      go_wp2_with fail
      go_loopw [12] (fun s12 wr => ∃ (i g c q c2 g2 d q2 d2 : Nat) (x y : SD), s12 = .int .i64 i ∧ (i ≤ L1.length ∨ i ≤ L2.length) ∧ Quad wr w.heap.size s g c r q c2 x s2 g2 d r2 q2 d2 y ∧ Below w.heap.size w wr)
        (fun s12 _ => max L1.length L2.length - (intOf s12).toNat)
      case atStart => exact ⟨0, g, c, q, c2, g2, d, q2, d2, x, x, rfl, .inl (by omega), QQ.out, b5⟩
      case round =>
        clear QQ b5 hbd kbd hs4 hg4 hsz4 hr5 hq5 hszr d1 hi hlt hl
        obtain ⟨i, g, c, q, c2, g2, d, q2, d2, x, y, rfl, hi12, hQ, bel⟩ := hrel
        have i0 : (0 : Int) ≤ (i : Int) := by omega
        by_cases hlt : i < L1.length ∨ i < L2.length
        · have dl1 : decide (i < L1.length) = true ∨ decide (i < L1.length) = false := by cases decide (i < L1.length) <;> simp
          have wrp : IntKind.i64.wrap ((i : Int) + 1) = (i : Int) + 1 := by rw [IntKind.wrap_i64]; omega
          by_cases hk1 : i < L1.length
          · obtain ⟨dd, b1, o1, hd1, rfl, hc1, hAd1, hn1⟩ := act_at hA1 bel hk1
            have j1 : (i : Int) < (L1.length : Int) := by omega
            have e1 : decide (i < L1.length) = true := by simp; omega
            have c10 := hc1 0 _ rfl
            rw [Nat.add_zero] at c10
            by_cases h5 : dd.what = 5
            · rw [h5] at c10
              have hd := hd1
              clear h5 hc1 hAd1 hd1 hd
              by_cases hk2 : i < L2.length
              · obtain ⟨dd, b2, o2, hd2, rfl, hc2, hAd2, hn2⟩ := act_at hA2 bel hk2
                have j2 : (i : Int) < (L2.length : Int) := by omega
                have e2 : decide (i < L2.length) = true := by simp; omega
                have c20 := hc2 0 _ rfl
                rw [Nat.add_zero] at c20
                by_cases h5 : dd.what = 5
                · rw [h5] at c20
                  have hd := hd2
                  clear h5 hc2 hAd2 hd2 hd
                  go_wp2_with fail
                  go_roundw
                  case rel => exact ⟨i + 1, g, c, q, c2, g2, d, q2, d2, _, _, by go_num, by omega, hQ, bel⟩
                  case measure => simp [intOf]; omega
                · have n5 : (dd.what != 5) = true := by rw [bne_iff_ne]; exact h5
                  have KS := Lib.hid (step_any dd y y wr hQ.swap.1 hQ.swap.2.1 hAd2 hn2 (tab_below ht bel hw0) hw0 (.inl rfl))
                  have c21 := hc2 1 _ rfl
                  have c22 := hc2 2 _ rfl
                  have c23 := hc2 3 _ rfl
                  have c24 := hc2 4 _ rfl
                  have Q2 := Lib.hid hQ
                  have H5 := Lib.hid h5
                  simp only [ActD.cells] at KS
                  clear h5 hc2 hAd2 hd2 hQ
                  go_wp2_with fail
                  refine KS.out.mono ?_
                  intro e w7 hp
                  obtain ⟨rfl, ⟨g', c', q', c2', hQ'⟩, bs⟩ := Quad.step Q2.out.swap H5.out hp
                  have bel := bel.trans bs
                  clear hp bs KS H5 n5 c20 c21 c22 c23 c24 Q2
                  have hQf := Lib.hid hQ'.swap
                  clear hQ'
                  go_wp2_with fail
                  go_roundw
                  case rel => exact ⟨i + 1, g, c, q, c2, g', c', q', c2', _, _, by go_num, by omega, hQf.out, bel⟩
                  case measure => simp [intOf]; omega
              · have e2 : decide (i < L2.length) = false := by simp; omega
                go_wp2_with fail
                go_roundw
                case rel => exact ⟨i + 1, g, c, q, c2, g2, d, q2, d2, _, _, by go_num, by omega, hQ, bel⟩
                case measure => simp [intOf]; omega
            · have n5 : (dd.what != 5) = true := by rw [bne_iff_ne]; exact h5
              have KS := Lib.hid (step_any dd x x wr hQ.1 hQ.2.1 hAd1 hn1 (tab_below ht bel hw0) hw0 (.inl rfl))
              have c11 := hc1 1 _ rfl
              have c12 := hc1 2 _ rfl
              have c13 := hc1 3 _ rfl
              have c14 := hc1 4 _ rfl
              have Q1 := Lib.hid hQ
              have H5 := Lib.hid h5
              simp only [ActD.cells] at KS
              clear h5 hc1 hAd1 hd1 hQ
              go_wp2_with fail
              refine KS.out.mono ?_
              intro e w6 hp
              obtain ⟨rfl, ⟨gg, cc, qq, cc2, hQ'⟩, bs⟩ := Quad.step Q1.out H5.out hp
              have bel := bel.trans bs
              clear hp bs KS H5 n5 c10 c11 c12 c13 c14 Q1
              have hQ := hQ'
              clear hQ'
              by_cases hk2 : i < L2.length
              · obtain ⟨dd, b2, o2, hd2, rfl, hc2, hAd2, hn2⟩ := act_at hA2 bel hk2
                have j2 : (i : Int) < (L2.length : Int) := by omega
                have e2 : decide (i < L2.length) = true := by simp; omega
                have c20 := hc2 0 _ rfl
                rw [Nat.add_zero] at c20
                by_cases h5 : dd.what = 5
                · rw [h5] at c20
                  have hd := hd2
                  clear h5 hc2 hAd2 hd2 hd
                  go_wp2_with fail
                  go_roundw
                  case rel => exact ⟨i + 1, gg, cc, qq, cc2, g2, d, q2, d2, _, _, by go_num, by omega, hQ, bel⟩
                  case measure => simp [intOf]; omega
                · have n5 : (dd.what != 5) = true := by rw [bne_iff_ne]; exact h5
                  have KS := Lib.hid (step_any dd y y w6 hQ.swap.1 hQ.swap.2.1 hAd2 hn2 (tab_below ht bel hw0) hw0 (.inl rfl))
                  have c21 := hc2 1 _ rfl
                  have c22 := hc2 2 _ rfl
                  have c23 := hc2 3 _ rfl
                  have c24 := hc2 4 _ rfl
                  have Q2 := Lib.hid hQ
                  have H5 := Lib.hid h5
                  simp only [ActD.cells] at KS
                  clear h5 hc2 hAd2 hd2 hQ
                  go_wp2_with fail
                  refine KS.out.mono ?_
                  intro e w7 hp
                  obtain ⟨rfl, ⟨g', c', q', c2', hQ'⟩, bs⟩ := Quad.step Q2.out.swap H5.out hp
                  have bel := bel.trans bs
                  clear hp bs KS H5 n5 c20 c21 c22 c23 c24 Q2
                  have hQf := Lib.hid hQ'.swap
                  clear hQ'
                  go_wp2_with fail
                  go_roundw
                  case rel => exact ⟨i + 1, gg, cc, qq, cc2, g', c', q', c2', _, _, by go_num, by omega, hQf.out, bel⟩
                  case measure => simp [intOf]; omega
              · have e2 : decide (i < L2.length) = false := by simp; omega
                go_wp2_with fail
                go_roundw
                case rel => exact ⟨i + 1, gg, cc, qq, cc2, g2, d, q2, d2, _, _, by go_num, by omega, hQ, bel⟩
                case measure => simp [intOf]; omega
          · have e1 : decide (i < L1.length) = false := by simp; omega
            by_cases hk2 : i < L2.length
            · obtain ⟨dd, b2, o2, hd2, rfl, hc2, hAd2, hn2⟩ := act_at hA2 bel hk2
              have j2 : (i : Int) < (L2.length : Int) := by omega
              have e2 : decide (i < L2.length) = true := by simp; omega
              have c20 := hc2 0 _ rfl
              rw [Nat.add_zero] at c20
              by_cases h5 : dd.what = 5
              · rw [h5] at c20
                have hd := hd2
                clear h5 hc2 hAd2 hd2 hd
                go_wp2_with fail
                go_roundw
                case rel => exact ⟨i + 1, g, c, q, c2, g2, d, q2, d2, _, _, by go_num, by omega, hQ, bel⟩
                case measure => simp [intOf]; omega
              · have n5 : (dd.what != 5) = true := by rw [bne_iff_ne]; exact h5
                have KS := Lib.hid (step_any dd y y wr hQ.swap.1 hQ.swap.2.1 hAd2 hn2 (tab_below ht bel hw0) hw0 (.inl rfl))
                have c21 := hc2 1 _ rfl
                have c22 := hc2 2 _ rfl
                have c23 := hc2 3 _ rfl
                have c24 := hc2 4 _ rfl
                have Q2 := Lib.hid hQ
                have H5 := Lib.hid h5
                simp only [ActD.cells] at KS
                clear h5 hc2 hAd2 hd2 hQ
                go_wp2_with fail
                refine KS.out.mono ?_
                intro e w7 hp
                obtain ⟨rfl, ⟨g', c', q', c2', hQ'⟩, bs⟩ := Quad.step Q2.out.swap H5.out hp
                have bel := bel.trans bs
                clear hp bs KS H5 n5 c20 c21 c22 c23 c24 Q2
                have hQf := Lib.hid hQ'.swap
                clear hQ'
                go_wp2_with fail
                go_roundw
                case rel => exact ⟨i + 1, g, c, q, c2, g', c', q', c2', _, _, by go_num, by omega, hQf.out, bel⟩
                case measure => simp [intOf]; omega
            · exact absurd hlt (by omega)
        · have d1 : decide (i < L1.length) = false := by simp; omega
          have d2' : decide (i < L2.length) = false := by simp; omega
          have KS1 := Lib.hid (same_any wr hQ.1 hQ.2.1)
          have Q := Lib.hid hQ
          clear hQ
          go_wp2_with fail
          refine KS1.out.mono ?_
          rintro e w6 ⟨rfl, b6'⟩
          have b6 := bel.trans (b6'.mono bel.size)
          have KS2 := Lib.hid (same_any w6 (Q.out.2.2.1.below b6') (Q.out.2.2.2.1.below b6'))
          clear b6' KS1 Q
          go_wp2_with fail
          refine KS2.out.mono ?_
          rintro e w7 ⟨rfl, b7'⟩
          have b7 := b6.trans (b7'.mono b6.size)
          clear b7' KS2
          go_wp2_with fail
          go_ret
          exact ⟨rfl, b7⟩
theorem vcopies_leaf (a a1 a2 : Option Addr) (len len1 len2 cap cap1 cap2 : Nat) (w : World) (ht : Lib.TabIs Tryd.prog w "cnc/vars.numbers" .i64 tabNums) (h : Leaf w (.tab actKs) (.slice a len cap)) (h1 : Leaf w (.tab actKs) (.slice a1 len1 cap1)) (h2 : Leaf w (.tab actKs) (.slice a2 len2 cap2)) :
    Calls Tryd.prog 8 #[.slice a len cap, .slice a1 len1 cap1, .slice a2 len2 cap2] w fun e w' => e = .returned (.bool true) ∧ Below w.heap.size w w' := by
  obtain ⟨L, rfl, hA, hn⟩ := acts_leaf h
  obtain ⟨L1, rfl, hA1, hn1⟩ := acts_leaf h1
  obtain ⟨L2, rfl, hA2, hn2⟩ := acts_leaf h2
  exact vcopies_walk a a1 a2 L L1 L2 cap cap1 cap2 w hA hn hA1 hn1 hA2 hn2 ht
end Go.Proofs.YtdbhkpkndfhcoaaDoor
