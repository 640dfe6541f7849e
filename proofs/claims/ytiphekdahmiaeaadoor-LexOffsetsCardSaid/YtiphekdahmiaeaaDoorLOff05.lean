/-
  LexOffsets returns true. Its arguments: any.
-/
import Derived.Test.YtiphekdahmiaeaaDoorLJoin05
import Derived.Test.YtiphekdahmiaeaaDoorOff05
import Derived.Test.YtiphekdahmiaeaaDoorHeld
namespace Go.Proofs.YtiphekdahmiaeaaDoor
open Go Go.RowKit
set_option linter.unusedVariables false
attribute [local go_sem ↓] ix_run

def atZ (ts : List TokL) : Nat → Int
  | 0 => -1
  | k + 1 => match ts[k]? with | some t => t.pos | none => -1
theorem tok_up {ts : List TokL} (h : ∀ (i : Nat) (t u : TokL), ts[i]? = some t → ts[i + 1]? = some u → t.pos < u.pos) (i : Nat) (t : TokL) (hi : ts[i]? = some t) : atZ ts i < t.pos := by
  cases i with
  | zero => simp only [atZ]; omega
  | succ k =>
    have := (List.getElem?_eq_some_iff.1 hi).1
    have hk : ts[k]? = some ts[k] := List.getElem?_eq_getElem (by omega)
    rw [atZ, hk]
    simp only
    have := h k _ t hk hi
    omega
set_option maxRecDepth 100000 in
set_option maxHeartbeats 4000000 in
theorem loffs_walk (s : ByteArray) (a : Option Addr) (n c : Nat) (z : List Int) (w : World) (hN : NamesIs w) (hw0 : 0 < w.heap.size) (hs : s.size ≤ maxLen) (hz : IsRow .i64 w a n c z) :
    Calls Tryd.prog 6 #[.string s, .slice a n c] w fun e w' => e = .returned (.bool true) ∧ Below w.heap.size w w' := by
  unfold maxLen at hs
  have hnm := hz.most
  have KL := light_any w a n c
  by_cases h200 : s.size ≤ 200
  · have d1 : decide (200 < s.size) = false := by simp; omega
    have d1' : decide ((200 : Int) < (s.size : Int)) = false := by simp; omega
    by_cases h120 : n ≤ 120
    · rw [decide_eq_true h120] at KL
      have KL := Lib.hid KL
      have KN := Lib.hid (tape_new w a n c z hz (by omega))
      have HZ := Lib.hid hz
      clear hz
      go_enter Tryd.func6, Tryd.ntmps6
      go_wp2_with fail
      refine KL.out.mono ?_
      rintro e w' ⟨rfl, rfl⟩
      go_wp2_with fail
      refine KN.out.mono ?_
      rintro e w1 ⟨rfl, hs1, b1⟩
      have KX := Lib.hid (next_any w1 w.heap.size w.heap.size a n c (fun i => z.getD i 0) 3 ⟨0, hs1⟩ (by omega) (by omega))
      clear hs1 KN KL
      go_wp2_with fail
      refine KX.out.mono ?_
      rintro e w2 ⟨r, k', hr0, hr1, rfl, _, g2⟩
      have b2 : Below w.heap.size w w2 := b1.trans (below_of_grown g2 b1.size (fun k e => by have := Option.some.inj e; omega))
      have hsz2 := b2.size
      clear b1 g2 KX
      by_cases hr : 0 < r
      · have dr : decide (0 < r) = true := by simpa using hr
        have KN := Lib.hid (tape_new w2 a n c z (HZ.out.below b2) (by omega))
        go_wp2_with fail
        refine KN.out.mono ?_
        rintro e w3 ⟨rfl, hs3, b3⟩
        have KLN := Lib.hid (line_any w3 w2.heap.size w2.heap.size a n c (fun i => z.getD i 0) ⟨0, hs3⟩)
        clear hs3 KN
        go_wp2_with fail
        refine KLN.out.mono ?_
        rintro e w4 ⟨L, hL, rfl, _, g4⟩
        have b4' : Below w2.heap.size w2 w4 := b3.trans (below_of_grown g4 b3.size (fun k e => by have := Option.some.inj e; omega))
        have b4 : Below w.heap.size w w4 := b2.trans (b4'.mono hsz2)
        have hsz4 := b4.size
        clear b3 g4 KLN b4' b2
        have KT1 := tokens_v L (by omega) w4 (hN.below b4 hw0) (by omega)
        have hoff := fun ts => lex_offs (s := L) (ts := ts)
        have hbad := fun q => lex_bad_lt (s := L) (q := q)
        have hlen := tsOf_len L
        generalize lexT (bl L) 0 = r1 at *
        have KT1 := Lib.hid KT1
        have HO := Lib.hid hoff
        have HB := Lib.hid hbad
        clear hoff hbad
        go_wp2_with fail
        refine KT1.out.mono ?_
        rintro e v1 ⟨a5, c5, rfl, t5, b5', n5, f5, m5⟩
        have b5 := b4.trans (b5'.mono hsz4)
        have hsz5 := b5.size
        have T5 := Lib.hid t5
        clear t5 b5' b4 KT1 n5 f5
        cases r1 with
        | bad q =>
          simp only [tsOf, nOf, eOf]
          have hq := HB.out q rfl
          have KA := Lib.hid (awake_true v1 (hN.below b5 hw0) (by omega))
          go_wp2_with fail
          refine KA.out.mono ?_
          rintro e v2 ⟨rfl, b6⟩
          go_wp2_with fail
          go_ret
          exact ⟨rfl, b5.trans (b6.mono hsz5)⟩
        | ok ts =>
          simp only [tsOf, nOf, eOf] at T5 m5 hlen ⊢
          obtain ⟨ho1, ho2⟩ := HO.out ts rfl
          have HX := Lib.hid (tok_up ho2)
          have HT := Lib.hid ho1
          have hget : ∀ k, k < ts.length → ∃ x, ts[k]? = some x := fun k hk => ⟨ts[k], List.getElem?_eq_getElem hk⟩
          have hNx := hN.below b5 hw0
          have hAw := awake_true v1 hNx (by omega)
          obtain ⟨N, hln⟩ : ∃ N, ts.length = N := ⟨_, rfl⟩
          rw [hln] at hget m5 hlen ⊢
          have HG := Lib.hid hget
          clear hget hln HO HB hAw ho1 ho2
          go_wp2_with fail
          go_loopw [8, 9] (fun s6 s7 wr => ∃ i : Nat, i ≤ N ∧ s6 = .int .i64 (atZ ts i) ∧ s7 = .int .i64 i ∧ Below v1.heap.size v1 wr)
            (fun _ s7 _ => N - (intOf s7).toNat)
          case atStart => exact ⟨0, by omega, rfl, rfl, Below.refl _ _⟩
          case round =>
            obtain ⟨i, hi, rfl, rfl, br⟩ := hrel
            have i0 : (0 : Int) ≤ (i : Int) := by omega
            by_cases hlt : i < N
            · have d1 : decide (i < N) = true := by simpa using hlt
              obtain ⟨x, hx⟩ := HG.out i hlt
              have hup := HX.out i x hx
              obtain ⟨hps, hok⟩ := HT.out i x hx
              obtain ⟨b, o, rfl, _, e1⟩ := T5.out.below br i x hx
              have HA := Lib.hid (show atZ ts (i + 1) = x.pos by rw [atZ, hx])
              obtain ⟨kd, tn, ps, tx⟩ := x
              have p0 := e1 0 _ rfl
              have p1 := e1 1 _ rfl
              have p2 := e1 2 _ rfl
              have p3 := e1 3 _ rfl
              simp only at p0 p1 p2 p3 hup hps hok HA
              rw [Nat.add_zero] at p0
              have j1 : decide ((ps : Int) ≤ atZ ts i) = false := by simp; omega
              have j2 : decide (L.size ≤ ps) = false := by simp; omega
              generalize atZ ts i = A at *
              obtain ⟨ch, rr, hl, hcs⟩ := hok
              have hby : byt L ps = ch.toNat := by
                obtain ⟨c', e1', e2'⟩ := drop_byt L ps hps
                rw [hl] at e1'
                injection e1' with e1' _
                rw [e2', e1']
              have hY := byt_bd L ps
              have brA := br.alloc br.size (.cells #[.int .i64 kd, .int .i64 tn, .int .i64 ps, .string (mkB tx)] 39)
              have l0 : (0 : Int) ≤ (ps : Int) := by omega
              have l1 : (ps : Int) < (L.size : Int) := by omega
              have HBR := Lib.hid brA
              clear e1 hx hup brA
              rcases hcs with ⟨rfl, rfl, h65, h90, rfl⟩ | ⟨rfl, hnum, hn0, hn1, rfl⟩ | ⟨rfl, rfl, hpre, hnm⟩ | ⟨rfl, rfl, hpre, hnm⟩
              · rw [← hby] at p1 h65 h90
                rw [← hby] at HBR
                rw [show mkB [] = ⟨#[]⟩ from rfl] at p3
                rw [show mkB [] = ⟨#[]⟩ from rfl] at HBR
                have q1 : decide (byt L ps < 65) = false := by simp; omega
                have q2 : decide (90 < byt L ps) = false := by simp; omega
                clear hl hby
                go_wp2_with fail
                go_quiet (fail)
                go_wp2_with fail
                go_roundw
                case rel => exact ⟨i + 1, by omega, by rw [HA.out], by go_num, by first | exact HBR.out | exact HBR.out.drew | exact below_drewN HBR.out _⟩
                case measure => simp [intOf]; omega
              · rw [← hby] at hnum
                rw [show mkB [] = ⟨#[]⟩ from rfl] at p3
                rw [show mkB [] = ⟨#[]⟩ from rfl] at HBR
                have q1 : decide (tn < 0) = false := by simp; omega
                have q2 : decide (1000000000000000 ≤ tn) = false := by simp; omega
                unfold numB digB at hnum
                by_cases h46 : byt L ps = 46
                · clear hl hby hnum
                  go_wp2_with fail
                  go_roundw
                  case rel => exact ⟨i + 1, by omega, by rw [HA.out], by go_num, by first | exact HBR.out | exact HBR.out.drew | exact below_drewN HBR.out _⟩
                  case measure => simp [intOf]; omega
                · have t46 := neB h46
                  have hd : 48 ≤ byt L ps ∧ byt L ps ≤ 57 := by simpa [h46] using hnum
                  have q3 : decide (byt L ps < 48) = false := by simp; omega
                  have q4 : decide (57 < byt L ps) = false := by simp; omega
                  clear hl hby hnum
                  go_wp2_with fail
                  go_roundw
                  case rel => exact ⟨i + 1, by omega, by rw [HA.out], by go_num, by first | exact HBR.out | exact HBR.out.drew | exact below_drewN HBR.out _⟩
                  case measure => simp [intOf]; omega
              · have hle := hpre.length_le
                rw [List.length_drop, bl_len] at hle
                have hBs : (mkB tx).size = tx.length := by rw [← bl_len, bl_mkB]
                have hex : L.extract ps (ps + (mkB tx).size) = mkB tx := by
                  rw [extract_mkB, hBs, Nat.add_sub_cancel_left, ← List.prefix_iff_eq_take.1 hpre]
                rw [← bl_mkB tx] at hnm
                rw [← hBs] at hle
                generalize mkB tx = B at *
                clear hl hby hpre hBs
                have q1 : decide ((L.size : Int) - ps < (B.size : Int)) = false := by simp; omega
                have m1 : (ps : Int) ≤ (ps : Int) + (B.size : Int) := by omega
                have m2 : (ps : Int) + (B.size : Int) ≤ (L.size : Int) := by omega
                let S : World → Prop := Keeps v1.heap.size v1 wr.heap.size 39 #[.int .i64 3, .int .i64 0, .int .i64 ps, .string B]
                have hs : S ((wr.alloc (.cells #[.int .i64 3, .int .i64 0, .int .i64 ps, .string B] 39)).drew) := (Keeps.new br br.size _ _).drew
                have inst : Nonempty (At S) := ⟨⟨_, hs⟩⟩
                have y0 : ∀ p : At S, p.w.cell? ⟨wr.heap.size, 0, none⟩ = some (.int .i64 3) := fun p => p.ok.cell 0 rfl
                have y1 : ∀ p : At S, p.w.cell? ⟨wr.heap.size, 1, none⟩ = some (.int .i64 0) := fun p => p.ok.cell 1 rfl
                have y3 : ∀ p : At S, p.w.cell? ⟨wr.heap.size, 3, none⟩ = some (.string B) := fun p => p.ok.cell 3 rfl
                have hB : ∀ p : At S, Below v1.heap.size v1 p.w := fun p => p.ok.bel
                have KM := fun p : At S => name_any B p.w (hNx.below p.ok.bel (by omega))
                simp only [hnm] at KM
                have hA : ∀ (p : At S) w', p.w = w' → S w' := fun p w' h => h ▸ p.ok
                have KM := Lib.hid KM
                clear hnm
                clear_value S
                go_wp2_with fail
                refine wp_region_at S (by kernel_rfl) (by kernel_rfl) hs ?_
                repeat go_big_quiet_step (with_reducible exact Calls.at_of (KM.out _) fun e w' h => ⟨h.1, hA _ _ h.2⟩)
                refine wpQuiet_nil ?_
                rintro _ ⟨p, rfl⟩
                go_wp2_with fail
                go_roundw
                case rel => exact ⟨i + 1, by omega, by rw [HA.out], by go_num, hB p⟩
                case measure => simp [intOf]; omega
              · have hle := hpre.length_le
                rw [List.length_drop, bl_len] at hle
                have hBs : (mkB tx).size = tx.length := by rw [← bl_len, bl_mkB]
                have hex : L.extract ps (ps + (mkB tx).size) = mkB tx := by
                  rw [extract_mkB, hBs, Nat.add_sub_cancel_left, ← List.prefix_iff_eq_take.1 hpre]
                rw [← bl_mkB tx] at hnm
                rw [← hBs] at hle
                generalize mkB tx = B at *
                clear hl hby hpre hBs
                have q1 : decide ((L.size : Int) - ps < (B.size : Int)) = false := by simp; omega
                have m1 : (ps : Int) ≤ (ps : Int) + (B.size : Int) := by omega
                have m2 : (ps : Int) + (B.size : Int) ≤ (L.size : Int) := by omega
                let S : World → Prop := Keeps v1.heap.size v1 wr.heap.size 39 #[.int .i64 4, .int .i64 0, .int .i64 ps, .string B]
                have hs : S ((wr.alloc (.cells #[.int .i64 4, .int .i64 0, .int .i64 ps, .string B] 39)).drew) := (Keeps.new br br.size _ _).drew
                have inst : Nonempty (At S) := ⟨⟨_, hs⟩⟩
                have y0 : ∀ p : At S, p.w.cell? ⟨wr.heap.size, 0, none⟩ = some (.int .i64 4) := fun p => p.ok.cell 0 rfl
                have y1 : ∀ p : At S, p.w.cell? ⟨wr.heap.size, 1, none⟩ = some (.int .i64 0) := fun p => p.ok.cell 1 rfl
                have y3 : ∀ p : At S, p.w.cell? ⟨wr.heap.size, 3, none⟩ = some (.string B) := fun p => p.ok.cell 3 rfl
                have hB : ∀ p : At S, Below v1.heap.size v1 p.w := fun p => p.ok.bel
                have KM := fun p : At S => name_any B p.w (hNx.below p.ok.bel (by omega))
                simp only [hnm] at KM
                have hA : ∀ (p : At S) w', p.w = w' → S w' := fun p w' h => h ▸ p.ok
                have KM := Lib.hid KM
                clear hnm
                clear_value S
                go_wp2_with fail
                refine wp_region_at S (by kernel_rfl) (by kernel_rfl) hs ?_
                repeat go_big_quiet_step (with_reducible exact Calls.at_of (KM.out _) fun e w' h => ⟨h.1, hA _ _ h.2⟩)
                refine wpQuiet_nil ?_
                rintro _ ⟨p, rfl⟩
                go_wp2_with fail
                go_roundw
                case rel => exact ⟨i + 1, by omega, by rw [HA.out], by go_num, hB p⟩
                case measure => simp [intOf]; omega
            · obtain rfl : i = N := by omega
              have d1 : decide (i < i) = false := by simp
              have KA := Lib.hid (awake_true wr (hNx.below br (by omega)) (by have := br.size; omega))
              go_wp2_with fail
              refine KA.out.mono ?_
              rintro e v2 ⟨rfl, b6⟩
              go_wp2_with fail
              go_ret
              exact ⟨rfl, (b5.trans (br.mono hsz5)).trans (b6.mono (by have := br.size; omega))⟩
      · have dr : decide (0 < r) = false := by simpa using hr
        obtain rfl : r = 0 := by omega
        clear dr
        have KT1 := tokens_v s (by omega) w2 (hN.below b2 hw0) (by omega)
        have hoff := fun ts => lex_offs (s := s) (ts := ts)
        have hbad := fun q => lex_bad_lt (s := s) (q := q)
        have hlen := tsOf_len s
        generalize lexT (bl s) 0 = r1 at *
        have KT1 := Lib.hid KT1
        have HO := Lib.hid hoff
        have HB := Lib.hid hbad
        clear hoff hbad
        go_wp2_with fail
        refine KT1.out.mono ?_
        rintro e v1 ⟨a5, c5, rfl, t5, b5', n5, f5, m5⟩
        have b5 := b2.trans (b5'.mono hsz2)
        have hsz5 := b5.size
        have T5 := Lib.hid t5
        clear t5 b5' b2 KT1 n5 f5
        cases r1 with
        | bad q =>
          simp only [tsOf, nOf, eOf]
          have hq := HB.out q rfl
          have KA := Lib.hid (awake_true v1 (hN.below b5 hw0) (by omega))
          go_wp2_with fail
          refine KA.out.mono ?_
          rintro e v2 ⟨rfl, b6⟩
          go_wp2_with fail
          go_ret
          exact ⟨rfl, b5.trans (b6.mono hsz5)⟩
        | ok ts =>
          simp only [tsOf, nOf, eOf] at T5 m5 hlen ⊢
          obtain ⟨ho1, ho2⟩ := HO.out ts rfl
          have HX := Lib.hid (tok_up ho2)
          have HT := Lib.hid ho1
          have hget : ∀ k, k < ts.length → ∃ x, ts[k]? = some x := fun k hk => ⟨ts[k], List.getElem?_eq_getElem hk⟩
          have hNx := hN.below b5 hw0
          have hAw := awake_true v1 hNx (by omega)
          obtain ⟨N, hln⟩ : ∃ N, ts.length = N := ⟨_, rfl⟩
          rw [hln] at hget m5 hlen ⊢
          have HG := Lib.hid hget
          clear hget hln HO HB hAw ho1 ho2
          go_wp2_with fail
          go_loopw [8, 9] (fun s6 s7 wr => ∃ i : Nat, i ≤ N ∧ s6 = .int .i64 (atZ ts i) ∧ s7 = .int .i64 i ∧ Below v1.heap.size v1 wr)
            (fun _ s7 _ => N - (intOf s7).toNat)
          case atStart => exact ⟨0, by omega, rfl, rfl, Below.refl _ _⟩
          case round =>
            obtain ⟨i, hi, rfl, rfl, br⟩ := hrel
            have i0 : (0 : Int) ≤ (i : Int) := by omega
            by_cases hlt : i < N
            · have d1 : decide (i < N) = true := by simpa using hlt
              obtain ⟨x, hx⟩ := HG.out i hlt
              have hup := HX.out i x hx
              obtain ⟨hps, hok⟩ := HT.out i x hx
              obtain ⟨b, o, rfl, _, e1⟩ := T5.out.below br i x hx
              have HA := Lib.hid (show atZ ts (i + 1) = x.pos by rw [atZ, hx])
              obtain ⟨kd, tn, ps, tx⟩ := x
              have p0 := e1 0 _ rfl
              have p1 := e1 1 _ rfl
              have p2 := e1 2 _ rfl
              have p3 := e1 3 _ rfl
              simp only at p0 p1 p2 p3 hup hps hok HA
              rw [Nat.add_zero] at p0
              have j1 : decide ((ps : Int) ≤ atZ ts i) = false := by simp; omega
              have j2 : decide (s.size ≤ ps) = false := by simp; omega
              generalize atZ ts i = A at *
              obtain ⟨ch, rr, hl, hcs⟩ := hok
              have hby : byt s ps = ch.toNat := by
                obtain ⟨c', e1', e2'⟩ := drop_byt s ps hps
                rw [hl] at e1'
                injection e1' with e1' _
                rw [e2', e1']
              have hY := byt_bd s ps
              have brA := br.alloc br.size (.cells #[.int .i64 kd, .int .i64 tn, .int .i64 ps, .string (mkB tx)] 39)
              have l0 : (0 : Int) ≤ (ps : Int) := by omega
              have l1 : (ps : Int) < (s.size : Int) := by omega
              have HBR := Lib.hid brA
              clear e1 hx hup brA
              rcases hcs with ⟨rfl, rfl, h65, h90, rfl⟩ | ⟨rfl, hnum, hn0, hn1, rfl⟩ | ⟨rfl, rfl, hpre, hnm⟩ | ⟨rfl, rfl, hpre, hnm⟩
              · rw [← hby] at p1 h65 h90
                rw [← hby] at HBR
                rw [show mkB [] = ⟨#[]⟩ from rfl] at p3
                rw [show mkB [] = ⟨#[]⟩ from rfl] at HBR
                have q1 : decide (byt s ps < 65) = false := by simp; omega
                have q2 : decide (90 < byt s ps) = false := by simp; omega
                clear hl hby
                go_wp2_with fail
                go_quiet (fail)
                go_wp2_with fail
                go_roundw
                case rel => exact ⟨i + 1, by omega, by rw [HA.out], by go_num, by first | exact HBR.out | exact HBR.out.drew | exact below_drewN HBR.out _⟩
                case measure => simp [intOf]; omega
              · rw [← hby] at hnum
                rw [show mkB [] = ⟨#[]⟩ from rfl] at p3
                rw [show mkB [] = ⟨#[]⟩ from rfl] at HBR
                have q1 : decide (tn < 0) = false := by simp; omega
                have q2 : decide (1000000000000000 ≤ tn) = false := by simp; omega
                unfold numB digB at hnum
                by_cases h46 : byt s ps = 46
                · clear hl hby hnum
                  go_wp2_with fail
                  go_roundw
                  case rel => exact ⟨i + 1, by omega, by rw [HA.out], by go_num, by first | exact HBR.out | exact HBR.out.drew | exact below_drewN HBR.out _⟩
                  case measure => simp [intOf]; omega
                · have t46 := neB h46
                  have hd : 48 ≤ byt s ps ∧ byt s ps ≤ 57 := by simpa [h46] using hnum
                  have q3 : decide (byt s ps < 48) = false := by simp; omega
                  have q4 : decide (57 < byt s ps) = false := by simp; omega
                  clear hl hby hnum
                  go_wp2_with fail
                  go_roundw
                  case rel => exact ⟨i + 1, by omega, by rw [HA.out], by go_num, by first | exact HBR.out | exact HBR.out.drew | exact below_drewN HBR.out _⟩
                  case measure => simp [intOf]; omega
              · have hle := hpre.length_le
                rw [List.length_drop, bl_len] at hle
                have hBs : (mkB tx).size = tx.length := by rw [← bl_len, bl_mkB]
                have hex : s.extract ps (ps + (mkB tx).size) = mkB tx := by
                  rw [extract_mkB, hBs, Nat.add_sub_cancel_left, ← List.prefix_iff_eq_take.1 hpre]
                rw [← bl_mkB tx] at hnm
                rw [← hBs] at hle
                generalize mkB tx = B at *
                clear hl hby hpre hBs
                have q1 : decide ((s.size : Int) - ps < (B.size : Int)) = false := by simp; omega
                have m1 : (ps : Int) ≤ (ps : Int) + (B.size : Int) := by omega
                have m2 : (ps : Int) + (B.size : Int) ≤ (s.size : Int) := by omega
                let S : World → Prop := Keeps v1.heap.size v1 wr.heap.size 39 #[.int .i64 3, .int .i64 0, .int .i64 ps, .string B]
                have hs : S ((wr.alloc (.cells #[.int .i64 3, .int .i64 0, .int .i64 ps, .string B] 39)).drew) := (Keeps.new br br.size _ _).drew
                have inst : Nonempty (At S) := ⟨⟨_, hs⟩⟩
                have y0 : ∀ p : At S, p.w.cell? ⟨wr.heap.size, 0, none⟩ = some (.int .i64 3) := fun p => p.ok.cell 0 rfl
                have y1 : ∀ p : At S, p.w.cell? ⟨wr.heap.size, 1, none⟩ = some (.int .i64 0) := fun p => p.ok.cell 1 rfl
                have y3 : ∀ p : At S, p.w.cell? ⟨wr.heap.size, 3, none⟩ = some (.string B) := fun p => p.ok.cell 3 rfl
                have hB : ∀ p : At S, Below v1.heap.size v1 p.w := fun p => p.ok.bel
                have KM := fun p : At S => name_any B p.w (hNx.below p.ok.bel (by omega))
                simp only [hnm] at KM
                have hA : ∀ (p : At S) w', p.w = w' → S w' := fun p w' h => h ▸ p.ok
                have KM := Lib.hid KM
                clear hnm
                clear_value S
                go_wp2_with fail
                refine wp_region_at S (by kernel_rfl) (by kernel_rfl) hs ?_
                repeat go_big_quiet_step (with_reducible exact Calls.at_of (KM.out _) fun e w' h => ⟨h.1, hA _ _ h.2⟩)
                refine wpQuiet_nil ?_
                rintro _ ⟨p, rfl⟩
                go_wp2_with fail
                go_roundw
                case rel => exact ⟨i + 1, by omega, by rw [HA.out], by go_num, hB p⟩
                case measure => simp [intOf]; omega
              · have hle := hpre.length_le
                rw [List.length_drop, bl_len] at hle
                have hBs : (mkB tx).size = tx.length := by rw [← bl_len, bl_mkB]
                have hex : s.extract ps (ps + (mkB tx).size) = mkB tx := by
                  rw [extract_mkB, hBs, Nat.add_sub_cancel_left, ← List.prefix_iff_eq_take.1 hpre]
                rw [← bl_mkB tx] at hnm
                rw [← hBs] at hle
                generalize mkB tx = B at *
                clear hl hby hpre hBs
                have q1 : decide ((s.size : Int) - ps < (B.size : Int)) = false := by simp; omega
                have m1 : (ps : Int) ≤ (ps : Int) + (B.size : Int) := by omega
                have m2 : (ps : Int) + (B.size : Int) ≤ (s.size : Int) := by omega
                let S : World → Prop := Keeps v1.heap.size v1 wr.heap.size 39 #[.int .i64 4, .int .i64 0, .int .i64 ps, .string B]
                have hs : S ((wr.alloc (.cells #[.int .i64 4, .int .i64 0, .int .i64 ps, .string B] 39)).drew) := (Keeps.new br br.size _ _).drew
                have inst : Nonempty (At S) := ⟨⟨_, hs⟩⟩
                have y0 : ∀ p : At S, p.w.cell? ⟨wr.heap.size, 0, none⟩ = some (.int .i64 4) := fun p => p.ok.cell 0 rfl
                have y1 : ∀ p : At S, p.w.cell? ⟨wr.heap.size, 1, none⟩ = some (.int .i64 0) := fun p => p.ok.cell 1 rfl
                have y3 : ∀ p : At S, p.w.cell? ⟨wr.heap.size, 3, none⟩ = some (.string B) := fun p => p.ok.cell 3 rfl
                have hB : ∀ p : At S, Below v1.heap.size v1 p.w := fun p => p.ok.bel
                have KM := fun p : At S => name_any B p.w (hNx.below p.ok.bel (by omega))
                simp only [hnm] at KM
                have hA : ∀ (p : At S) w', p.w = w' → S w' := fun p w' h => h ▸ p.ok
                have KM := Lib.hid KM
                clear hnm
                clear_value S
                go_wp2_with fail
                refine wp_region_at S (by kernel_rfl) (by kernel_rfl) hs ?_
                repeat go_big_quiet_step (with_reducible exact Calls.at_of (KM.out _) fun e w' h => ⟨h.1, hA _ _ h.2⟩)
                refine wpQuiet_nil ?_
                rintro _ ⟨p, rfl⟩
                go_wp2_with fail
                go_roundw
                case rel => exact ⟨i + 1, by omega, by rw [HA.out], by go_num, hB p⟩
                case measure => simp [intOf]; omega
            · obtain rfl : i = N := by omega
              have d1 : decide (i < i) = false := by simp
              have KA := Lib.hid (awake_true wr (hNx.below br (by omega)) (by have := br.size; omega))
              go_wp2_with fail
              refine KA.out.mono ?_
              rintro e v2 ⟨rfl, b6⟩
              go_wp2_with fail
              go_ret
              exact ⟨rfl, (b5.trans (br.mono hsz5)).trans (b6.mono (by have := br.size; omega))⟩
    · rw [decide_eq_false h120] at KL
      have KL := Lib.hid KL
      have KA := Lib.hid (awake_true w hN hw0)
      go_enter Tryd.func6, Tryd.ntmps6
      go_wp2_with fail
      refine KL.out.mono ?_
      rintro e w' ⟨rfl, rfl⟩
      go_wp2_with fail
      refine KA.out.mono ?_
      rintro e w1 ⟨rfl, b1⟩
      go_wp2_with fail
      go_ret
      exact ⟨rfl, b1⟩
  · have d1 : decide (200 < s.size) = true := by simp; omega
    have d1' : decide ((200 : Int) < (s.size : Int)) = true := by simp; omega
    have KA := Lib.hid (awake_true w hN hw0)
    go_enter Tryd.func6, Tryd.ntmps6
    go_wp2_with fail
    refine KA.out.mono ?_
    rintro e w1 ⟨rfl, b1⟩
    go_wp2_with fail
    go_ret
    exact ⟨rfl, b1⟩
end Go.Proofs.YtiphekdahmiaeaaDoor
