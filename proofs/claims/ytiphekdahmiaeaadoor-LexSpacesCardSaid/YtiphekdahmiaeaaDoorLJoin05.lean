/-
  LexJoins returns true. Its arguments: any.
-/
import Derived.Test.YtiphekdahmiaeaaDoorAlike05
import Derived.Test.YtiphekdahmiaeaaDoorLStr05
namespace Go.Proofs.YtiphekdahmiaeaaDoor
open Go Go.RowKit
set_option linter.unusedVariables false
attribute [local go_sem ↓] ix_run

theorem joins {l m : List UInt8} {ts : List TokL} (h : lexT l 0 = .ok ts) (h59 : (59 : UInt8) ∉ l) : lexT (l ++ [32] ++ m) 0 = Res.join ts (Res.shift (l.length + 1) (lexT m 0)) := by
  rw [List.append_assoc]
  show lexT (l ++ (32 :: m)) 0 = _
  rw [lex_sep h h59 (.inr ⟨32, m, rfl, .inl rfl⟩), lex_space, lexT_shift]

theorem lexF_bad : ∀ (f : Nat) (l : List UInt8) (p q : Nat), l.length ≤ f → lexF f l p = .bad q → p ≤ q ∧ q < p + l.length
  | _, [], p, q, _, h => by rw [lexF.eq_def] at h; cases h
  | 0, c :: r, _, _, hf, _ => by simp at hf
  | f + 1, c :: r, p, q, hf, h => by
    rw [lexF] at h
    cases hs : stepL (c :: r) with
    | none =>
      rw [hs] at h
      injection h with h
      simp only [List.length_cons]
      omega
    | some xk =>
      obtain ⟨x, k⟩ := xk
      have hk := step_pos hs
      have hd : ((c :: r).drop k).length = (c :: r).length - k := List.length_drop
      simp only [List.length_cons] at hd hf hk ⊢
      rw [hs] at h
      cases x with
      | none =>
        have := lexF_bad f _ _ q (by omega) h
        omega
      | some t =>
        obtain ⟨kd, n, tx⟩ := t
        simp only at h
        cases hr : lexF f ((c :: r).drop k) (p + k) with
        | ok us => rw [hr] at h; cases h
        | bad q' =>
          rw [hr] at h
          injection h with h
          have := lexF_bad f _ _ q' (by omega) hr
          omega
theorem lex_bad_lt {s : ByteArray} {q : Nat} (h : lexT (bl s) 0 = .bad q) : q < s.size := by
  have := lexF_bad _ (bl s) 0 q (Nat.le_refl _) h
  rw [bl_len] at this
  omega
set_option maxRecDepth 100000 in
set_option maxHeartbeats 4000000 in
theorem ljoins_walk (a : Option Addr) (n c : Nat) (z : List Int) (a' : Option Addr) (n' c' : Nat) (z' : List Int) (w : World) (hN : NamesIs w) (hw0 : 0 < w.heap.size) (hz : IsRow .i64 w a n c z) (hz' : IsRow .i64 w a' n' c' z') :
    Calls Tryd.prog 7 #[.slice a n c, .slice a' n' c'] w fun e w' => e = .returned (.bool true) ∧ Below w.heap.size w w' := by
  have hnm := hz.most
  have hnm' := hz'.most
  have KL := light_any w a n c
  have KL' := light_any w a' n' c'
  by_cases h120 : n ≤ 120 ∧ n' ≤ 120
  · obtain ⟨h1, h2⟩ := h120
    rw [decide_eq_true h1] at KL
    rw [decide_eq_true h2] at KL'
    have KL := Lib.hid KL
    have KL' := Lib.hid KL'
    have KN := Lib.hid (tape_new w a n c z hz (by omega))
    have HZ := Lib.hid hz'
    clear hz hz'
    go_enter Tryd.func7, Tryd.ntmps7
    go_wp2_with fail
    refine KL.out.mono ?_
    rintro e w' ⟨rfl, rfl⟩
    go_wp2_with fail
    refine KL'.out.mono ?_
    rintro e w' ⟨rfl, rfl⟩
    go_wp2_with fail
    refine KN.out.mono ?_
    rintro e w1 ⟨rfl, hs1, b1⟩
    have KLN := Lib.hid (line_any w1 w.heap.size w.heap.size a n c (fun i => z.getD i 0) ⟨0, hs1⟩)
    clear hs1 KN KL KL'
    go_wp2_with fail
    refine KLN.out.mono ?_
    rintro e w2 ⟨L, hL, rfl, _, g2⟩
    have b2 : Below w.heap.size w w2 := b1.trans (below_of_grown g2 b1.size (fun k e => by have := Option.some.inj e; omega))
    have hsz2 := b2.size
    have KN := Lib.hid (tape_new w2 a' n' c' z' (HZ.out.below b2) (by omega))
    clear b1 g2 KLN HZ
    go_wp2_with fail
    refine KN.out.mono ?_
    rintro e w3 ⟨rfl, hs3, b3⟩
    have KLN := Lib.hid (line_any w3 w2.heap.size w2.heap.size a' n' c' (fun i => z'.getD i 0) ⟨0, hs3⟩)
    clear hs3 KN
    go_wp2_with fail
    refine KLN.out.mono ?_
    rintro e w4 ⟨M, hM, rfl, _, g4⟩
    have b4' : Below w2.heap.size w2 w4 := b3.trans (below_of_grown g4 b3.size (fun k e => by have := Option.some.inj e; omega))
    have b4 : Below w.heap.size w w4 := b2.trans (b4'.mono hsz2)
    have hsz4 := b4.size
    clear b3 g4 KLN b4' b2
    go_wp2_with fail
    go_loopw [7] (fun s7 wr => ∃ i : Nat, i ≤ L.size ∧ s7 = .int .i64 i ∧ (∀ k, k < i → byt L k ≠ 59) ∧ w4 = wr)
      (fun s7 _ => L.size - (intOf s7).toNat)
    case atStart => exact ⟨0, by omega, rfl, fun k h => by omega, rfl⟩
    case round =>
      obtain ⟨i, hi, rfl, hall, rfl⟩ := hrel
      have HA := Lib.hid hall
      clear hall
      have i0 : (0 : Int) ≤ (i : Int) := by omega
      by_cases hlt : i < L.size
      · have d1 : decide (i < L.size) = true := by simpa using hlt
        by_cases h59 : byt L i = 59
        · have t59 := eqB h59
          have KA := Lib.hid (awake_true w4 (hN.below b4 hw0) (by omega))
          clear h59
          go_wp2_with fail
          refine KA.out.mono ?_
          rintro e w5 ⟨rfl, b5⟩
          go_wp2_with fail
          go_ret
          exact ⟨rfl, b4.trans (b5.mono hsz4)⟩
        · have t59 := neB h59
          have H59 := Lib.hid h59
          clear h59
          go_wp2_with fail
          go_roundw
          case rel => exact ⟨i + 1, by omega, by go_num, fun k hk => by
            by_cases e : k = i
            · subst e; exact H59.out
            · exact HA.out k (by omega), trivial⟩
          case measure => simp [intOf]; omega
      · obtain rfl : i = L.size := by omega
        have d1 : decide (L.size < L.size) = false := by simp
        have H59 := Lib.hid (no59 HA.out)
        have hlL := tsOf_len L
        have hlM := tsOf_len M
        clear HA
        obtain ⟨r1, er1⟩ : ∃ r1, lexT (bl L) 0 = r1 := ⟨_, rfl⟩
        obtain ⟨r2, er2⟩ : ∃ r2, lexT (bl M) 0 = r2 := ⟨_, rfl⟩
        have KT1 := tokens_v L (by omega) w4 (hN.below b4 hw0) (by omega)
        rw [er1] at hlL KT1
        rw [er2] at hlM
        have KT1 := Lib.hid KT1
        go_wp2_with fail
        refine KT1.out.mono ?_
        rintro e w5 ⟨a5, c5, rfl, t5, b5', n5, f5, m5⟩
        have b5 := b4.trans (b5'.mono hsz4)
        have hsz5 := b5.size
        have T5 := Lib.hid t5
        have N5 := Lib.hid n5
        have KT2 := tokens_v M (by omega) w5 (hN.below b5 hw0) (by omega)
        rw [er2] at KT2
        have KT2 := Lib.hid KT2
        clear t5 b5' b4 KT1 n5 f5
        go_wp2_with fail
        refine KT2.out.mono ?_
        rintro e w6 ⟨a6, c6, rfl, t6, b6', n6, f6, m6⟩
        have b6 := b5.trans (b6'.mono hsz5)
        have hsz6 := b6.size
        have T5b := Lib.hid (T5.out.below b6')
        have T6 := Lib.hid t6
        have N6 := Lib.hid n6
        have s32 : (⟨#[32]⟩ : ByteArray).size = 1 := rfl
        have hsz : (L ++ ⟨#[32]⟩ ++ M).size = L.size + 1 + M.size := by rw [size_app, size_app, s32]
        have hg1 : ¬ L.size + (⟨#[32]⟩ : ByteArray).size > 9223372036854775807 := by omega
        have hg2 : ¬ (L ++ ⟨#[32]⟩).size + M.size > 9223372036854775807 := by rw [size_app]; omega
        have HSZ := Lib.hid hsz
        have KT3 := tokens_v _ (by rw [HSZ.out]; omega : (L ++ ⟨#[32]⟩ ++ M).size ≤ 1000000) w6 (hN.below b6 hw0) (by omega)
        have hj : ∀ ts, r1 = .ok ts → lexT (bl (L ++ ⟨#[32]⟩ ++ M)) 0 = Res.join ts (Res.shift (L.size + 1) r2) := fun ts hts => by
          rw [bl_append, bl_append, show bl ⟨#[32]⟩ = [32] from rfl, joins (er1.trans hts) H59.out, bl_len, er2]
        generalize lexT (bl (L ++ ⟨#[32]⟩ ++ M)) 0 = r3 at *
        have hqM : ∀ q, r2 = .bad q → q < M.size := fun q e => lex_bad_lt (er2.trans e)
        have HQ := Lib.hid hqM
        have KT3 := Lib.hid KT3
        have HJ := Lib.hid hj
        have e3 := HSZ.out
        clear t6 b6' b5 KT2 n6 f6 T5 hsz s32 hj er1 er2 H59 hqM
        go_wp2_with fail
        refine KT3.out.mono ?_
        rintro e w7 ⟨a7, c7, rfl, t7, b7', n7, f7, m7⟩
        have b7 := b6.trans (b7'.mono hsz6)
        have hsz7 := b7.size
        have T5c := Lib.hid (T5b.out.below b7')
        have T6c := Lib.hid (T6.out.below b7')
        have T7 := Lib.hid t7
        have N7 := Lib.hid n7
        have F7 := Lib.hid f7
        have KA := Lib.hid (awake_true w7 (hN.below b7 hw0) (by omega))
        generalize (L ++ ⟨#[32]⟩ ++ M).size = N3 at *
        have E3 := Lib.hid e3
        clear t7 b7' b6 KT3 n7 f7 T5b T6 hg1 hg2 HSZ e3
        cases r1 with
        | bad q =>
          generalize nOf N3 r3 = x3
          generalize eOf r3 = y3
          generalize (tsOf r3).length = t3
          generalize nOf M.size r2 = x2
          generalize eOf r2 = y2
          generalize (tsOf r2).length = t2
          simp only [tsOf, nOf, eOf]
          go_wp2_with fail
          refine KA.out.mono ?_
          rintro e w8 ⟨rfl, b8⟩
          go_wp2_with fail
          go_ret
          exact ⟨rfl, b7.trans (b8.mono hsz7)⟩
        | ok ts =>
          have er3 := HJ.out ts rfl
          cases r2 with
          | bad q =>
            have er3' : r3 = .bad (q + (L.size + 1)) := er3
            have hq := HQ.out q rfl
            subst er3'
            clear er3
            simp only [tsOf, nOf, eOf]
            have eqn : (((q + (L.size + 1) : Nat) : Int) == (L.size : Int) + 1 + (q : Int)) = true := by simp; omega
            have eqn' : ((q : Int) + ((L.size : Int) + 1) == (L.size : Int) + 1 + (q : Int)) = true := by simp; omega
            go_wp2_with fail
            refine KA.out.mono ?_
            rintro e w8 ⟨rfl, b8⟩
            go_wp2_with fail
            go_ret
            exact ⟨rfl, b7.trans (b8.mono hsz7)⟩
          | ok us =>
            have er3' : r3 = .ok (ts ++ us.map (shiftK (L.size + 1))) := er3
            subst er3'
            clear er3
            have elen : (ts ++ us.map (shiftK (L.size + 1))).length = ts.length + us.length := by simp
            have elen2 : (us.map (shiftK (L.size + 1))).length = us.length := by simp
            simp only [tsOf, nOf, eOf]
            simp only [tsOf] at m7 hlL hlM m5 m6
            rw [elen] at m7 ⊢
            have T7x := T7.out
            have N7x := N7.out
            simp only [tsOf] at T7x N7x
            rw [elen] at N7x
            have hsim := like_shift us (L.size + 1)
            generalize us.map (shiftK (L.size + 1)) = us' at *
            have T5d := T5c.out
            have T6d := T6c.out
            simp only [tsOf] at T5d T6d
            have HS := Lib.hid hsim
            have T5e := Lib.hid T5d
            have T6e := Lib.hid T6d
            have T7e := Lib.hid T7x
            have EL2 := Lib.hid elen2
            clear T5c T6c T7 T5d T6d T7x hsim elen elen2 HJ HQ N7 N5 N6
            cases a7 with
            | none =>
              obtain ⟨z1, z2⟩ := N7x rfl
              have ht0 : ts = [] := List.length_eq_zero_iff.1 (by omega)
              have hu0 : us = [] := List.length_eq_zero_iff.1 (by omega)
              subst ht0
              subst hu0
              subst z2
              simp only [List.length_nil, Nat.add_zero]
              have KS := Lib.hid (fun W => same_any none a5 0 c5 [] W (fun i t h => by simp at h) (fun i t h => by simp at h) (by simp))
              have KK := Lib.hid (fun W => alike_any none a6 0 c6 [] [] W (fun i t h => by simp at h) (fun i t h => by simp at h) ⟨rfl, fun i t u h => by simp at h⟩ (by simp))
              clear N7x F7
              go_wp2_with fail
              refine KA.out.mono ?_
              rintro e w8 ⟨rfl, b8⟩
              go_wp2_with fail
              refine (KS.out _).mono ?_
              rintro e w9 ⟨rfl, b9⟩
              have b9 := (b7.trans (b8.mono hsz7)).trans (b9.mono (by have := b8.size; omega))
              have h9 := b9.size
              have KK := Lib.hid (KK.out w9)
              go_wp2_with fail
              refine KK.out.mono ?_
              rintro e w10 ⟨rfl, b10⟩
              go_wp2_with fail
              go_ret
              exact ⟨rfl, b9.trans (b10.mono h9)⟩
            | some x =>
              obtain ⟨b, o, rfl⟩ := F7.out x rfl
              clear N7x F7
              have i1 : (0 : Int) ≤ (ts.length : Int) := by omega
              have i2 : (ts.length : Int) ≤ (c7 : Int) := by omega
              have i3 : (ts.length : Int) ≤ ((ts.length + us.length : Nat) : Int) := by omega
              have i4 : (ts.length : Int) ≤ (ts.length : Int) + (us.length : Int) := by omega
              by_cases hcap : ts.length = c7
              · have hu0 : us = [] := List.length_eq_zero_iff.1 (by omega)
                have T7w := Lib.hid (T7e.out.take)
                clear i3 i4 HS EL2 T7e T6e i2 hlM m6
                subst hcap
                subst hu0
                simp only [List.length_nil, Nat.add_zero]
                have i4 : (ts.length : Int) ≤ (ts.length : Int) + 0 := by omega
                go_wp2_with fail
                refine KA.out.mono ?_
                rintro e w8 ⟨rfl, b8⟩
                have hsz8 := b8.size
                have KS := Lib.hid (same_any _ _ ts.length c5 ts w8 (T7w.out.below b8) ((T5e.out).below b8) (by omega))
                go_wp2_with fail
                refine KS.out.mono ?_
                rintro e w9 ⟨rfl, b9⟩
                have h9 := b9.size
                have b89 := b8.trans (b9.mono hsz8)
                have B := (b7.trans (b89.mono hsz7))
                have KK := Lib.hid (fun A C => alike_any A a6 C c6 [] [] w9 (fun i t h => by simp at h) (fun i t h => by simp at h) ⟨rfl, fun i t u h => by simp at h⟩ (by simp))
                clear b8 b9 b89
                go_wp2_with fail
                refine (KK.out _ _).mono ?_
                rintro e w10 ⟨rfl, b10⟩
                go_wp2_with fail
                go_ret
                exact ⟨rfl, B.trans (b10.mono (by omega))⟩
              · have j1 : (ts.length == c7) = false := by simpa using hcap
                go_wp2_with fail
                refine KA.out.mono ?_
                rintro e w8 ⟨rfl, b8⟩
                have hsz8 := b8.size
                have KS := Lib.hid (same_any _ _ c7 c5 ts w8 ((T7e.out.take).below b8) ((T5e.out).below b8) (by omega))
                go_wp2_with fail
                refine KS.out.mono ?_
                rintro e w9 ⟨rfl, b9⟩
                go_wp2_with fail
                have h9 := b9.size
                have b89 := b8.trans (b9.mono hsz8)
                have KK := alike_any (some ⟨b, o + ts.length * 4, none⟩) a6 (c7 - ts.length) c6 us' us w9 ((T7e.out.drop).below b89) (T6e.out.below b89) HS.out (by rw [EL2.out]; omega)
                rw [EL2.out] at KK
                have KK := Lib.hid KK
                have B := (b7.trans (b89.mono hsz7))
                clear b8 b9 b89
                refine KK.out.mono ?_
                rintro e w10 ⟨rfl, b10⟩
                go_wp2_with fail
                go_ret
                exact ⟨rfl, B.trans (b10.mono (by omega))⟩
  · have KA := Lib.hid (awake_true w hN hw0)
    have hcs : ¬ n ≤ 120 ∨ (n ≤ 120 ∧ ¬ n' ≤ 120) := by omega
    clear hz hz'
    rcases hcs with h1 | ⟨h1, h2⟩
    · rw [decide_eq_false h1] at KL
      have KL := Lib.hid KL
      clear KL'
      go_enter Tryd.func7, Tryd.ntmps7
      go_wp2_with fail
      refine KL.out.mono ?_
      rintro e w' ⟨rfl, rfl⟩
      go_wp2_with fail
      refine KA.out.mono ?_
      rintro e w1 ⟨rfl, b1⟩
      go_wp2_with fail
      go_ret
      exact ⟨rfl, b1⟩
    · rw [decide_eq_true h1] at KL
      rw [decide_eq_false h2] at KL'
      have KL := Lib.hid KL
      have KL' := Lib.hid KL'
      go_enter Tryd.func7, Tryd.ntmps7
      go_wp2_with fail
      refine KL.out.mono ?_
      rintro e w' ⟨rfl, rfl⟩
      go_wp2_with fail
      refine KL'.out.mono ?_
      rintro e w' ⟨rfl, rfl⟩
      go_wp2_with fail
      refine KA.out.mono ?_
      rintro e w1 ⟨rfl, b1⟩
      go_wp2_with fail
      go_ret
      exact ⟨rfl, b1⟩
end Go.Proofs.YtiphekdahmiaeaaDoor
