/-
  LexSpaces returns true. Its argument: any.
-/
import Derived.Test.YtiphekdahmiaeaaDoorLSpc05
import Derived.Test.YtiphekdahmiaeaaDoorHeld
namespace Go.Proofs.YtiphekdahmiaeaaDoor
open Go Go.RowKit
set_option linter.unusedVariables false
attribute [local go_sem ↓] ix_run

/-- A comment to the end behind a line. -/
theorem lex_tail {l : List UInt8} {ts : List TokL} (h : lexT l 0 = .ok ts) (h59 : (59 : UInt8) ∉ l) : lexT (l ++ [32, 59, 32, 71, 49, 32, 46, 46]) 0 = .ok ts := by
  rw [lex_sep h h59 (.inr ⟨32, _, rfl, .inl rfl⟩), lex_space]
  have hs : stepL [59, 32, 71, 49, 32, 46, 46] = some (none, 7) := by rw [stepL]; rfl
  rw [lexT_skip hs]
  show Res.ok (ts ++ []) = _
  rw [List.append_nil]
set_option maxRecDepth 100000 in
set_option maxHeartbeats 4000000 in
theorem lspaces_walk (a : Option Addr) (n c : Nat) (z : List Int) (w : World) (hN : NamesIs w) (hw0 : 0 < w.heap.size) (hz : IsRow .i64 w a n c z) :
    Calls Tryd.prog 5 #[.slice a n c] w fun e w' => e = .returned (.bool true) ∧ Below w.heap.size w w' := by
  have hnm := hz.most
  have KL := light_any w a n c
  by_cases h120 : n ≤ 120
  · rw [decide_eq_true h120] at KL
    have KL := Lib.hid KL
    have KN := Lib.hid (tape_new w a n c z hz (by omega))
    clear hz
    go_enter Tryd.func5, Tryd.ntmps5
    go_wp2_with fail
    refine KL.out.mono ?_
    rintro e w' ⟨rfl, rfl⟩
    go_wp2_with fail
    refine KN.out.mono ?_
    rintro e w1 ⟨rfl, hs1, b1⟩
    have KLN := Lib.hid (line_any w1 w.heap.size w.heap.size a n c (fun i => z.getD i 0) ⟨0, hs1⟩)
    clear hs1 KN KL
    go_wp2_with fail
    refine KLN.out.mono ?_
    rintro e w4 ⟨L, hL, rfl, _, g2⟩
    have b4 : Below w.heap.size w w4 := b1.trans (below_of_grown g2 b1.size (fun k e => by have := Option.some.inj e; omega))
    have hsz4 := b4.size
    clear b1 g2 KLN
    go_wp2_with fail
    go_loopw [4] (fun s7 wr => ∃ i : Nat, i ≤ L.size ∧ s7 = .int .i64 i ∧ (∀ k, k < i → byt L k ≠ 59) ∧ w4 = wr)
      (fun s7 _ => L.size - (intOf s7).toNat)
    case atStart => exact ⟨0, by omega, rfl, fun k h => by omega, rfl⟩
    case round =>
      obtain ⟨i, hi, rfl, hall, rfl⟩ := hrel
      have HA := Lib.hid hall
      clear hall
      have i0 : (0 : Int) ≤ (i : Int) := by omega
      by_cases hlt : i < L.size
      · have d1 : decide (i < L.size) = true := by simpa using hlt
        by_cases h59 : byt L i = 59
        · have t59 := eqB h59
          have KA := Lib.hid (awake_true w4 (hN.below b4 hw0) (by omega))
          clear h59
          go_wp2_with fail
          refine KA.out.mono ?_
          rintro e w5 ⟨rfl, b5⟩
          go_wp2_with fail
          go_ret
          exact ⟨rfl, b4.trans (b5.mono hsz4)⟩
        · have t59 := neB h59
          have H59 := Lib.hid h59
          clear h59
          go_wp2_with fail
          go_roundw
          case rel => exact ⟨i + 1, by omega, by go_num, fun k hk => by
            by_cases e : k = i
            · subst e; exact H59.out
            · exact HA.out k (by omega), trivial⟩
          case measure => simp [intOf]; omega
      · obtain rfl : i = L.size := by omega
        have d1 : decide (L.size < L.size) = false := by simp
        have H59 := Lib.hid (no59 HA.out)
        clear HA
        have hlen := tsOf_len L
        have hoff := fun ts => lex_offs (s := L) (ts := ts)
        obtain ⟨r1, er1⟩ : ∃ r1, lexT (bl L) 0 = r1 := ⟨_, rfl⟩
        have KT1 := tokens_v L (by omega) w4 (hN.below b4 hw0) (by omega)
        rw [er1] at KT1 hlen hoff
        have KT1 := Lib.hid KT1
        have HO := Lib.hid hoff
        have ER := Lib.hid er1
        clear er1 hoff
        go_wp2_with fail
        refine KT1.out.mono ?_
        rintro e v1 ⟨a5, c5, rfl, t5, b5', n5, f5, m5⟩
        have b5 := b4.trans (b5'.mono hsz4)
        have hsz5 := b5.size
        have T5 := Lib.hid t5
        clear t5 b5' b4 KT1 n5 f5
        cases r1 with
        | bad q =>
          simp only [tsOf, nOf, eOf]
          have KA := Lib.hid (awake_true v1 (hN.below b5 hw0) (by omega))
          go_wp2_with fail
          refine KA.out.mono ?_
          rintro e v2 ⟨rfl, b6⟩
          go_wp2_with fail
          go_ret
          exact ⟨rfl, b5.trans (b6.mono hsz5)⟩
        | ok ts =>
          simp only [tsOf, nOf, eOf] at T5 m5 hlen ⊢
          obtain ⟨ho1, ho2⟩ := HO.out ts rfl
          have HU := Lib.hid ho2
          have HT := Lib.hid ho1
          have hget : ∀ k, k < ts.length → ∃ x, ts[k]? = some x := fun k hk => ⟨ts[k], List.getElem?_eq_getElem hk⟩
          have hNx := hN.below b5 hw0
          have KS1 := fun W hb => spaced_any L a5 c5 ⟨#[32]⟩ ts W hL ER.out H59.out (T5.out.below hb) (by decide) between_space
          have KS2 := fun W hb => spaced_any L a5 c5 ⟨#[9, 40, 120, 41]⟩ ts W hL ER.out H59.out (T5.out.below hb) (by decide) between_comment
          obtain ⟨N, hln⟩ : ∃ N, ts.length = N := ⟨_, rfl⟩
          have HLN := Lib.hid hln
          rw [hln] at hget m5 hlen KS1 KS2 ⊢
          have HG := Lib.hid hget
          have KS1 := Lib.hid KS1
          have KS2 := Lib.hid KS2
          clear hget hln HO ho1 ho2
          go_wp2_with fail
          go_loopw [8] (fun s8 wr => ∃ i q : Nat, i ≤ N ∧ s8 = .int .i64 i ∧ wr = v1.drewN q) (fun s8 _ => N - (intOf s8).toNat)
          case atStart => exact ⟨0, 0, by omega, rfl, rfl⟩
          case round =>
            obtain ⟨i, q, hi, rfl, rfl⟩ := hrel
            have bq : Below v1.heap.size v1 (v1.drewN q) := below_drewN (Below.refl _ _) q
            have i0 : (0 : Int) ≤ (i : Int) := by omega
            by_cases hlt : i < N
            · have d1 : decide (i < N) = true := by simpa using hlt
              obtain ⟨x, hx⟩ := HG.out i hlt
              have hps := (HT.out i x hx).1
              obtain ⟨b, o, rfl, _, e1⟩ := T5.out i x hx
              have p2 := e1 2 _ rfl
              have l1 : (i : Int) < (N : Int) := by omega
              have l2 : decide (L.size ≤ x.pos) = false := decide_eq_false (by omega)
              have l3 : decide ((x.pos : Int) < 0) = false := by simp
              cases i with
              | zero =>
                clear e1 hx hps
                generalize x.pos = X at *
                go_wp2_with fail
                go_quiet (fail)
                go_wp2_with fail
                go_roundw
                case rel => exact ⟨1, _, by omega, by go_num, rfl⟩
                case measure => simp [intOf] <;> omega
              | succ k =>
                obtain ⟨y, hy⟩ := HG.out k (by omega)
                have hup := HU.out k y x hy hx
                obtain ⟨b', o', e', _, e2⟩ := T5.out k y hy
                injection e' with e'
                injection e' with e3 e4
                subst e3
                subst e4
                have p3 := e2 2 _ rfl
                have l4 : decide (x.pos ≤ y.pos) = false := decide_eq_false (by omega)
                have l5 : decide ((x.pos : Int) ≤ (y.pos : Int)) = false := decide_eq_false (by omega)
                have l6 : (k : Int) + 1 - 1 = (k : Int) := by omega
                have l7 : (0 : Int) ≤ (k : Int) := by omega
                have l8 : (k : Int) < (N : Int) := by omega
                have l9 : decide ((0 : Int) < (k : Int) + 1) = true := decide_eq_true (by omega)
                clear e1 e2 hx hy hps hup
                generalize x.pos = X at *
                generalize y.pos = Y at *
                go_wp2_with fail
                go_quiet (fail)
                go_wp2_with fail
                go_roundw
                case rel => exact ⟨k + 2, _, by omega, by go_num, rfl⟩
                case measure => simp [intOf] <;> omega
            · obtain rfl : i = N := by omega
              have d1 : decide (i < i) = false := by simp
              have KS1 := Lib.hid (KS1.out _ bq)
              have hsq : (v1.drewN q).heap.size = v1.heap.size := by simp
              go_wp2_with fail
              refine KS1.out.mono ?_
              rintro e v2 ⟨⟨S1, us1, rfl, ht1, hk1, hs1⟩, b6'⟩
              have b6 := bq.trans (b6'.mono (by omega))
              have hsz6 := b6.size
              have HK1 := Lib.hid hk1
              have KT1 := tokens_u S1 (by omega) v2 (hNx.below b6 (by omega)) (by omega)
              rw [ht1.ok] at KT1
              have KT1 := Lib.hid KT1
              clear bq KS1 ht1 hk1 b6'
              go_wp2_with fail
              refine KT1.out.mono ?_
              rintro e v3 ⟨a3, c3, rfl, t3, b7', _⟩
              have b7 := b6.trans (b7'.mono hsz6)
              have hsz7 := b7.size
              simp only [tsOf, nOf, eOf] at t3 ⊢
              have T3 := Lib.hid t3
              rw [HK1.out.1, HLN.out]
              have KS2 := Lib.hid (KS2.out _ b7)
              clear KT1 b6 b7' t3
              go_wp2_with fail
              refine KS2.out.mono ?_
              rintro e v4 ⟨⟨S2, us2, rfl, ht2, hk2, hs2⟩, b8'⟩
              have b8 := b7.trans (b8'.mono hsz7)
              have hsz8 := b8.size
              have HK2 := Lib.hid hk2
              have T3b := Lib.hid (T3.out.below b8')
              have KT2 := tokens_u S2 (by omega) v4 (hNx.below b8 (by omega)) (by omega)
              rw [ht2.ok] at KT2
              have KT2 := Lib.hid KT2
              clear b7 KS2 ht2 hk2 b8' T3
              go_wp2_with fail
              refine KT2.out.mono ?_
              rintro e v5 ⟨a4, c4, rfl, t4, b9', _⟩
              have b9 := b8.trans (b9'.mono hsz8)
              have hsz9 := b9.size
              simp only [tsOf, nOf, eOf] at t4 ⊢
              have T4 := Lib.hid t4
              have T3c := Lib.hid (T3b.out.below b9')
              rw [HK2.out.1, HLN.out]
              have s8 : (⟨#[32, 59, 32, 71, 49, 32, 46, 46]⟩ : ByteArray).size = 8 := rfl
              have hg1 : ¬ L.size + (⟨#[32, 59, 32, 71, 49, 32, 46, 46]⟩ : ByteArray).size > 9223372036854775807 := by omega
              have KT3 := tokens_u (L ++ ⟨#[32, 59, 32, 71, 49, 32, 46, 46]⟩) (by rw [size_app]; omega) v5 (hNx.below b9 (by omega)) (by omega)
              rw [bl_append, show bl ⟨#[32, 59, 32, 71, 49, 32, 46, 46]⟩ = [32, 59, 32, 71, 49, 32, 46, 46] from rfl, lex_tail ER.out H59.out] at KT3
              have KT3 := Lib.hid KT3
              clear b8 KT2 t4 b9' s8 T3b
              go_wp2_with fail
              refine KT3.out.mono ?_
              rintro e v6 ⟨a6, c6, rfl, t6, b10', _⟩
              have b10 := b9.trans (b10'.mono hsz9)
              have hsz10 := b10.size
              simp only [tsOf, nOf, eOf] at t6 ⊢
              have T6 := Lib.hid t6
              have T3d := Lib.hid (T3c.out.below b10')
              have T4d := Lib.hid (T4.out.below b10')
              rw [HLN.out]
              have KA := Lib.hid (awake_true v6 (hNx.below b10 (by omega)) (by omega))
              clear b9 KT3 t6 b10' hg1 T3c T4
              go_wp2_with fail
              refine KA.out.mono ?_
              rintro e v7 ⟨rfl, b11'⟩
              have b11 := b10.trans (b11'.mono hsz10)
              have hsz11 := b11.size
              have T3e := T3d.out.below b11'
              have T4e := Lib.hid (T4d.out.below b11')
              have T6e := Lib.hid (T6.out.below b11')
              have KK := alike_any a5 a3 c5 c3 ts us1 v7 (T5.out.below b11) T3e (like_symm HK1.out) (by rw [HLN.out]; omega)
              rw [HK1.out.1, HLN.out] at KK
              have KK := Lib.hid KK
              clear b10 KA b11' T3d T3e T4d T6
              go_wp2_with fail
              refine KK.out.mono ?_
              rintro e v8 ⟨rfl, b12'⟩
              have b12 := b11.trans (b12'.mono hsz11)
              have hsz12 := b12.size
              have T4f := T4e.out.below b12'
              have T6f := Lib.hid (T6e.out.below b12')
              have KK := alike_any a5 a4 c5 c4 ts us2 v8 (T5.out.below b12) T4f (like_symm HK2.out) (by rw [HLN.out]; omega)
              rw [HK2.out.1, HLN.out] at KK
              have KK := Lib.hid KK
              clear b11 b12' T4e T4f T6e
              go_wp2_with fail
              refine KK.out.mono ?_
              rintro e v9 ⟨rfl, b13'⟩
              have b13 := b12.trans (b13'.mono hsz12)
              have hsz13 := b13.size
              have T6g := T6f.out.below b13'
              have KK := same_any a5 a6 c5 c6 ts v9 (T5.out.below b13) T6g (by rw [HLN.out]; omega)
              rw [HLN.out] at KK
              have KK := Lib.hid KK
              clear b12 b13' T6f T6g
              go_wp2_with fail
              refine KK.out.mono ?_
              rintro e v10 ⟨rfl, b14'⟩
              have b14 := b13.trans (b14'.mono hsz13)
              go_wp2_with fail
              go_ret
              exact ⟨rfl, b5.trans (b14.mono hsz5)⟩
  · rw [decide_eq_false h120] at KL
    have KL := Lib.hid KL
    have KA := Lib.hid (awake_true w hN hw0)
    go_enter Tryd.func5, Tryd.ntmps5
    go_wp2_with fail
    refine KL.out.mono ?_
    rintro e w' ⟨rfl, rfl⟩
    go_wp2_with fail
    refine KA.out.mono ?_
    rintro e w1 ⟨rfl, b1⟩
    go_wp2_with fail
    go_ret
    exact ⟨rfl, b1⟩
end Go.Proofs.YtiphekdahmiaeaaDoor
