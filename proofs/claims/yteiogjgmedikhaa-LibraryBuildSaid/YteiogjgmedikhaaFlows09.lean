/-
  cncstage.Flowing. No condition.
  What Flowing makes is valid and right: library.Build makes a library of it. Plain. No condition.
-/
import Derived.Test.YteiogjgmedikhaaCall09
namespace Go.Proofs.Yteiogjgmedikhaa
open Go Go.RowKit
set_option linter.unusedVariables false
/-- What Flowing returns. -/
def FlowPost (B g : Nat) (ac : Option Addr) (c : Nat) (T : Tp) (w : World) (e : Ending) (w' : World) : Prop :=
  ∃ a cap pl, e = .returned (.slice a (flowF T).length cap) ∧ BlksP (fun q => w.heap.size ≤ q) w' (flowF T) a cap pl ∧ ∃ k', Took B g ac c T w k' w'
def lenV : Value → Nat
  | .slice _ n _ => n
  | _ => 0
theorem own_alloc {w : World} {base e n size : Nat} {v : Value} {xs : List Value} (h : w.ownsRow base e size v n xs) (o : Obj) : (w.alloc o).ownsRow base e size v n xs := h.alloc o
set_option maxRecDepth 100000 in
set_option maxHeartbeats 1000000 in
theorem flow_any (w : World) (B g : Nat) (ac : Option Addr) (c : Nat) (T : Tp) (hs : Src w B g ac c T 0) : Calls Try.prog 18 #[.pointer (some ⟨g, 0, none⟩)] w (FlowPost B g ac c T w) := by
  have gl := hs.lt
  have H0 := Lib.hid (FlowAt.start hs (fun _ => plN))
  clear hs
  go_enter Try.func18, Try.ntmps18
  go_wp2_with fail
  go_loopw [3, 4, 5] (fun s3 s4 s5 wr => ∃ p : Nat, p ≤ 3 ∧ s5 = .int .i64 p ∧ s4 = .int .i64 (progsF T p).lab ∧ ∃ vl pl, vl = s3 ∧ FlowAt B g ac c T w (progsF T p).l 0 (progsF T p).k vl (.slice none 0 0) pl wr) (fun _ _ s _ => 3 - (intOf s).toNat)
  case atStart => exact ⟨0, by omega, rfl, rfl, _, _, rfl, H0.out⟩
  case round =>
    obtain ⟨p, hp, rfl, rfl, vl, pl, rfl, hat⟩ := hrel
    have HA := Lib.hid hat
    clear hat
    by_cases hp3 : p < 3
    · have d1 : decide ((p : Int) < 3) = true := decide_eq_true (by omega)
      have d1' : decide (p < 3) = true := decide_eq_true hp3
      have bd := progsF_bd T p
      have HN := Lib.hid (show progsF T (p + 1) = progF T p (progsF T p) from rfl)
      generalize progsF T p = S at *
      obtain ⟨l, lab, d0, k⟩ := S
      dsimp only at *
      go_upto_if 14 with fail
      go_cut [3] (fun s3 wx => ∃ vl pl, vl = s3 ∧ FlowAt B g ac c T w (beginF p l) 0 k vl (.slice none 0 0) pl wx)
      case first =>
        by_cases h0 : p = 0
        · subst h0
          go_wp2_with fail
          go_meet
          exact ⟨_, pl, rfl, HA.out⟩
        · have d2 : decide (0 < p) = true := decide_eq_true (by omega)
          have d2' : decide (0 < (p : Int)) = true := decide_eq_true (by omega)
          have hin : beginF p l = l ++ [progBk p] := if_neg h0
          have OWN := Lib.hid (HA.out.own.alloc (.cells (blkC (progBk p) plN).toArray 37))
          go_wp2_with (at_builtin; refine wpList_push rfl (.tmp 15) (.tmp 18) 22 rfl w.heap.size 37 (Value.agg #[.int .i64 0, .int .i64 0, .bool false, .slice none 0 0, .int .i64 0, .int .i64 0, .slice none 0 0, .int .i64 0, .int .i64 0, .slice none 0 0, .int .i64 0]) 11 136 Try.underlying22 infoBlock (by kernel_rfl) (by decide) (by decide) vl l.length (blksC l pl) rfl OWN.out wr.heap.size (blkC (progBk p) plN) rfl (Blk.new wr 37 _) rfl blkC_one (by omega) ?c1 ?c2)
          case c1 => have := HA.out.took.size; simp; omega
          case c2 =>
            intro gg cc w2 hp
            have h2 := (HA.out.grown gl (grown_alloc (grown_refl _ _) (.cells (blkC (progBk p) plN).toArray 37))).pushB gl (b := progBk p) (BlkP.plain _ _ _ _ _ _ _ _ _ _) hp
            rw [← hin] at h2
            have H2 := Lib.hid h2
            clear h2 hp hin
            go_wp2_with fail
            go_meet
            exact ⟨_, _, rfl, H2.out⟩
      case rest =>
        obtain ⟨vl1, pl1, rfl, hat⟩ := hcut
        clear H0 HA
        have HA := Lib.hid hat
        clear hat
        have r7 := range7 T k
        have KR := Lib.hid (fun W hW => range_any W B g ac c T k 1 7 hW (by decide) (by decide) (by decide))
        go_wp2_with fail
        refine (KR.out _ HA.out.took.src).mono ?_
        rintro e w1 ⟨rfl, t1⟩
        have HB := Lib.hid (HA.out.on gl t1)
        clear t1 HA KR
        have hpf := progF.eq_1 T p ⟨l, lab, d0, k⟩
        simp only at hpf
        generalize rangeF T k 1 7 = s at *
        obtain ⟨m, k1⟩ := s
        dsimp only at *
        obtain ⟨m, rfl⟩ : ∃ m' : Nat, m = m' := ⟨m.toNat, by omega⟩
        rw [Int.toNat_natCast] at hpf
        have HP := Lib.hid (HN.out.trans hpf)
        clear hpf HN
        have hlen := beginF_len p l
        generalize beginF p l = l0 at *
        have hbd := fun n => roundsF_bd T ⟨l0, lab, 0, k1⟩ (by simp) n
        have HBD := Lib.hid hbd
        clear hbd
        have BB := Lib.hid (And.intro bd hlen)
        clear bd hlen
        go_wp2_with fail
        go_loopw [3, 4, 6, 7] (fun s3 s4 s6 s7 W => ∃ i n : Nat, i + n = m ∧ s7 = .int .i64 n ∧ s4 = .int .i64 (roundsF T i ⟨l0, lab, 0, k1⟩).lab ∧ ∃ vl vo pl, vl = s3 ∧ vo = s6 ∧ FlowAt B g ac c T w (roundsF T i ⟨l0, lab, 0, k1⟩).l (roundsF T i ⟨l0, lab, 0, k1⟩).d (roundsF T i ⟨l0, lab, 0, k1⟩).k vl vo pl W) (fun _ _ _ s _ => (intOf s).toNat)
        case atStart => exact ⟨0, m, by omega, rfl, rfl, _, _, _, rfl, rfl, HB.out⟩
        case round =>
          obtain ⟨i, n, hin, rfl, rfl, vl, vo, pl, rfl, rfl, hat⟩ := hrel
          rename World => W0
          have HA := Lib.hid hat
          clear hat HB
          have hbd := HBD.out i
          have HRS := Lib.hid (roundsF_succ T i ⟨l0, lab, 0, k1⟩)
          have hns := HBD.out m
          generalize hS : roundsF T i ⟨l0, lab, 0, k1⟩ = S at *
          obtain ⟨l, la, d, k⟩ := S
          dsimp only at *
          obtain ⟨ao, co, rfl⟩ := HA.out.formO
          by_cases hn : 0 < n
          · have d1 : decide (0 < n) = true := decide_eq_true hn
            have d1' : decide (0 < (n : Int)) = true := decide_eq_true (by omega)
            clear hS hns
            have HBB := Lib.hid hbd
            clear hbd
            have KB := Lib.hid (block_any W0 B g ac c T k HA.out.took.src)
            have hr := roundF.eq_1 T ⟨l, la, d, k⟩
            dsimp only at hr
            generalize blockF T k = s at *
            obtain ⟨b, k2⟩ := s
            dsimp only at *
            have hlo := labOf.eq_1 T k2 (la + 1)
            have KN := Lib.hid (fun W hW => next_any W B g ac c T k2 2 hW (by decide) (by decide))
            generalize nextF T k2 2 = s at *
            obtain ⟨lv, k3⟩ := s
            dsimp only at *
            have HLO := Lib.hid hlo
            have HR := Lib.hid (HRS.out.trans hr)
            clear hlo hr HRS
            generalize labOf T k2 (la + 1) = lb at *
            go_wp2_with fail
            refine KB.out.mono ?_
            rintro e w1 ⟨p1, rfl, hbk, t1⟩
            have SN := store_newB w1 (blkC b p1) rfl blkC_one
            have gW : g < W0.heap.size := HA.out.took.src.lt
            have sz1 := t1.size
            have hrb : RB B g ac c T W0 w1.heap.size b p1 k2 (w1.alloc (.cells (blkC b p1).toArray 37)) :=
              ⟨t1.alloc _, Blk.new w1 _ _, (hbk.imp fun q hq hl => ⟨hq, by omega⟩).keep fun q _ hl => Below.heap_alloc w1 _ q hl⟩
            have R1 := Lib.hid hrb
            clear hrb t1 hbk
            go_upto_region 13 with fail
            have rr : W0.heap.size ≤ w1.heap.size := sz1
            refine on_told (fun W => RB B g ac c T W0 w1.heap.size b p1 k2 W) R1.out fun W2 h2 => ?_
            have R2 := Lib.hid h2
            clear h2 SN R1 KB
            have c1 : W2.cell? ⟨w1.heap.size, 1, none⟩ = some (.int .i64 b.label) := R2.out.bb.cell' 1 rfl
            have z1 := R2.out.bb.frozen 1
            have hla : (la : Int) < 1000 := by have := HBB.out; have := BB.out; omega
            go_wp2_with fail
            clear c1 z1
            refine calls_told (fun W => RB B g ac c T W0 w1.heap.size (labB b 0) p1 k2 W) (R2.out.put gW rr rfl fun W h => ⟨h.words, h.left, h.x⟩) fun W3 h3 => ?_
            have R3 := Lib.hid h3
            clear h3 R2
            refine (KN.out _ R3.out.took.src).mono ?_
            rintro e w4 ⟨rfl, t4⟩
            have R4 := Lib.hid (R3.out.on gW rr t4)
            clear t4 R3 KN
            go_upto_if 33 with fail
            go_cut [] (fun wx => RB B g ac c T W0 w1.heap.size (labB b lb) p1 k3 wx)
            case first =>
              by_cases hl : lv = 0
              · subst hl
                have e0 : lb = ((la + 1 : Nat) : Int) := HLO.out.trans (if_pos rfl)
                subst e0
                have c1 : w4.cell? ⟨w1.heap.size, 1, none⟩ = some (.int .i64 0) := R4.out.bb.cell' 1 rfl
                have z1 := R4.out.bb.frozen 1
                go_wp2_with fail
                go_meet
                exact R4.out.put gW rr rfl fun W h => ⟨h.words, h.left, h.x⟩
              · have e0 : lb = 0 := HLO.out.trans (if_neg hl)
                subst e0
                have f0 : (lv == 0) = false := by simpa using hl
                go_wp2_with fail
                go_meet
                exact R4.out
            case rest =>
              have R5 := Lib.hid hcut
              clear hcut R4 HLO
              generalize labB b lb = b1 at *
              obtain ⟨kd, lb1, sk, ws, lf, x, bn⟩ := b1
              obtain ⟨aw, cw, kk, kl, kx⟩ := p1
              have c0 : wc.cell? ⟨w1.heap.size, 0, none⟩ = some (.int .i64 kd) := R5.out.bb.cell' 0 rfl
              have ht := turnF.eq_1 T ⟨kd, lb1, sk, ws, lf, x, bn⟩ k3 ⟨l, la + 1, d, k⟩
              dsimp only at ht
              have HR2 := Lib.hid (HR.out.trans ht)
              clear ht HR
              have rW : w.heap.size ≤ w1.heap.size := Nat.le_trans HA.out.took.size rr
              have f6 : (kd == 6) = false ∨ kd = 6 := by by_cases h : kd = 6 <;> simp [h]
              by_cases h6 : kd = 6
              · subst h6
                have HX := Lib.hid (HR2.out.trans (if_pos rfl))
                clear HR2
                have bx : wc.heap[w1.heap.size]? = some (.cells #[.int .i64 6, .int .i64 lb1, .bool sk, .slice aw ws.length cw, .int .i64 lf.op, .int .i64 lf.n, .slice kl.a lf.kids.length kl.cap, .int .i64 x.op, .int .i64 x.n, .slice kx.a x.kids.length kx.cap, .int .i64 bn] 37 (0, 0)) := R5.out.bb
                go_upto_region 34 with ((with_reducible refine go_store_row 37 (.tmp 8) (.tmp 40) w1.heap.size #[.int .i64 0, .int .i64 0, .bool false, .slice none 0 0, .int .i64 0, .int .i64 0, .slice none 0 0, .int .i64 0, .int .i64 0, .slice none 0 0, .int .i64 0] 37 #[.int .i64 6, .int .i64 lb1, .bool sk, .slice aw ws.length cw, .int .i64 lf.op, .int .i64 lf.n, .slice kl.a lf.kids.length kl.cap, .int .i64 x.op, .int .i64 x.n, .slice kx.a x.kids.length kx.cap, .int .i64 bn] (by with_unfolding_all rfl) (by with_unfolding_all rfl) bx (by with_unfolding_all kernel_rfl) (by with_unfolding_all rfl) (by with_unfolding_all rfl) ?_))
                refine on_told (fun W => RB B g ac c T W0 w1.heap.size zeroB plN k3 W) (R5.out.row gW rr (BlkP.plain _ _ _ _ _ _ _ _ _ _)) fun W6 h6 => ?_
                have F6 := Lib.hid (HA.out.with gl rr h6)
                clear h6 bx
                have bx : W6.heap[w1.heap.size]? = some (.cells #[.int .i64 0, .int .i64 0, .bool false, .slice none 0 0, .int .i64 0, .int .i64 0, .slice none 0 0, .int .i64 0, .int .i64 0, .slice none 0 0, .int .i64 0] 37 (0, 0)) := F6.out.bb
                have FG := Lib.hid (F6.out.grown gl rW (grown_alloc (grown_refl _ _) (.cells #[.int .i64 0, .int .i64 0, .bool false, .slice none 0 0, .int .i64 0, .int .i64 0, .slice none 0 0, .int .i64 0, .int .i64 0, .slice none 0 0, .int .i64 0] 37)))
                go_wp2_with (first
                  | ((with_reducible refine go_load_row 37 (.tmp 8) w1.heap.size 37 #[.int .i64 0, .int .i64 0, .bool false, .slice none 0 0, .int .i64 0, .int .i64 0, .slice none 0 0, .int .i64 0, .int .i64 0, .slice none 0 0, .int .i64 0] _ rfl bx Try.underlying37 rfl (by kernel_rfl) ?_))
                  | (at_builtin; refine wpList_push rfl (.tmp 95) (.tmp 97) 22 rfl w.heap.size 37 (Value.agg #[.int .i64 0, .int .i64 0, .bool false, .slice none 0 0, .int .i64 0, .int .i64 0, .slice none 0 0, .int .i64 0, .int .i64 0, .slice none 0 0, .int .i64 0]) 11 136 Try.underlying22 infoBlock (by kernel_rfl) (by decide) (by decide) vl l.length (blksC l pl) rfl FG.out.flow.own W6.heap.size (blkC zeroB plN) rfl (Blk.new W6 37 _) rfl blkC_one ?c0 ?c1 ?c2))
                case c0 => have := HBB.out; have := BB.out; omega
                case c1 => have := FG.out.flow.took.size; simp at this ⊢; omega
                case c2 =>
                  intro gg cc w9 hp
                  have H9 := Lib.hid (FG.out.pushB gl hp)
                  clear hp bx
                  go_wp2_with fail
                  go_roundw
                  case rel =>
                    refine ⟨i + 1, n - 1, by omega, by go_num, ?_⟩
                    rw [HX.out]
                    exact ⟨by simp, _, _, _, rfl, rfl, H9.out⟩
                  case measure => simp [intOf]; omega
              have f6 : (kd == 6) = false := by simpa using h6
              have HR4 := Lib.hid (HR2.out.trans (if_neg h6))
              clear HR2
              by_cases h4 : kd = 4
              · subst h4
                have HR3 := Lib.hid (HR4.out.trans (if_pos rfl))
                clear HR4
                by_cases hd : d = 3
                · subst hd
                  have HX := Lib.hid (HR3.out.trans (if_pos rfl))
                  have H9 := Lib.hid (HA.out.on gl R5.out.took)
                  go_wp2_with fail
                  go_roundw
                  case rel =>
                    refine ⟨i + 1, n - 1, by omega, by go_num, ?_⟩
                    rw [HX.out]
                    exact ⟨by simp, _, _, _, rfl, rfl, H9.out⟩
                  case measure => simp [intOf]; omega
                · have HX := Lib.hid (HR3.out.trans (if_neg hd))
                  have e3 : ((d : Int) == 3) = false := by simp; omega
                  have hd3 : (d : Int) < 3 := by have := HBB.out; omega
                  have d0 : (0 : Int) ≤ (d : Int) := by omega
                  have c10 := R5.out.bb.cell' 10 rfl
                  have z10 := R5.out.bb.frozen 10
                  go_upto_region 23 with fail
                  clear c10 z10
                  refine on_told (fun W => RB B g ac c T W0 w1.heap.size ⟨4, lb1, sk, ws, lf, x, (d + 1 : Nat)⟩ ⟨aw, cw, kk, kl, kx⟩ k3 W) (R5.out.put gW rr rfl fun W h => ⟨h.words, h.left, h.x⟩) fun W6 h6 => ?_
                  have F6 := Lib.hid (HA.out.with gl rr h6)
                  have c10 : W6.cell? ⟨w1.heap.size, 10, none⟩ = some (.int .i64 ((d : Int) + 1)) := h6.bb.cell' 10 rfl
                  clear h6
                  have G6 := Lib.hid (F6.out.grown gl rW (grown_alloc (grown_refl _ _) (.cells #[.int .i64 ((d : Int) + 1)] 3)))
                  go_upto_region 34 with (at_builtin; refine wpList_push rfl (.tmp 50) (.tmp 53) 23 rfl w.heap.size 3 (.int .i64 0) 1 8 Try.underlying23 infoInt rfl (by decide) (by decide) (.slice ao d co) d (intC (opL d)) rfl G6.out.flow.op W6.heap.size [.int .i64 ((d : Int) + 1)] rfl (Blk.new W6 3 _) rfl (by simp [Value.oneCell']) ?e0 ?e1 ?e2)
                  case e0 => omega
                  case e1 => have := G6.out.flow.took.size; simp at this ⊢; omega
                  case e2 =>
                    intro gg cc w7 hp
                    have F7 := Lib.hid (G6.out.pushO gl hp)
                    clear hp c10
                    go_upto_region 34 with fail
                    have bx : w7.heap[w1.heap.size]? = some (.cells #[.int .i64 4, .int .i64 lb1, .bool sk, .slice aw ws.length cw, .int .i64 lf.op, .int .i64 lf.n, .slice kl.a lf.kids.length kl.cap, .int .i64 x.op, .int .i64 x.n, .slice kx.a x.kids.length kx.cap, .int .i64 ((d : Int) + 1)] 37 (0, 0)) := F7.out.bb
                    have FG := Lib.hid (F7.out.grown gl rW (grown_alloc (grown_refl _ _) (.cells #[.int .i64 4, .int .i64 lb1, .bool sk, .slice aw ws.length cw, .int .i64 lf.op, .int .i64 lf.n, .slice kl.a lf.kids.length kl.cap, .int .i64 x.op, .int .i64 x.n, .slice kx.a x.kids.length kx.cap, .int .i64 ((d : Int) + 1)] 37)))
                    go_wp2_with (first
                      | ((with_reducible refine go_load_row 37 (.tmp 8) w1.heap.size 37 #[.int .i64 4, .int .i64 lb1, .bool sk, .slice aw ws.length cw, .int .i64 lf.op, .int .i64 lf.n, .slice kl.a lf.kids.length kl.cap, .int .i64 x.op, .int .i64 x.n, .slice kx.a x.kids.length kx.cap, .int .i64 ((d : Int) + 1)] _ rfl bx Try.underlying37 rfl (by kernel_rfl) ?_))
                      | (at_builtin; refine wpList_push rfl (.tmp 95) (.tmp 97) 22 rfl w.heap.size 37 (Value.agg #[.int .i64 0, .int .i64 0, .bool false, .slice none 0 0, .int .i64 0, .int .i64 0, .slice none 0 0, .int .i64 0, .int .i64 0, .slice none 0 0, .int .i64 0]) 11 136 Try.underlying22 infoBlock (by kernel_rfl) (by decide) (by decide) vl l.length (blksC l pl) rfl FG.out.flow.own w7.heap.size (blkC (⟨4, lb1, sk, ws, lf, x, (d + 1 : Nat)⟩ : BlkL) ⟨aw, cw, kk, kl, kx⟩) rfl (Blk.new w7 37 _) rfl blkC_one ?c0 ?c1 ?c2))
                    case c0 => have := HBB.out; have := BB.out; omega
                    case c1 => have := FG.out.flow.took.size; simp at this ⊢; omega
                    case c2 =>
                      intro gg cc w9 hp
                      have H9 := Lib.hid (FG.out.pushB gl hp)
                      clear hp bx
                      go_wp2_with fail
                      go_roundw
                      case rel =>
                        refine ⟨i + 1, n - 1, by omega, by go_num, ?_⟩
                        rw [HX.out]
                        exact ⟨by simp, _, _, _, rfl, rfl, H9.out⟩
                      case measure => simp [intOf]; omega
              have f4 : (kd == 4) = false := by simpa using h4
              have HR5 := Lib.hid (HR4.out.trans (if_neg h4))
              clear HR4
              by_cases h5 : kd = 5
              · subst h5
                have HR3 := Lib.hid (HR5.out.trans (if_pos rfl))
                clear HR5
                cases d with
                | zero =>
                  have HX := Lib.hid (HR3.out.trans (if_pos rfl))
                  have H9 := Lib.hid (HA.out.on gl R5.out.took)
                  go_wp2_with fail
                  go_roundw
                  case rel =>
                    refine ⟨i + 1, n - 1, by omega, by go_num, ?_⟩
                    rw [HX.out]
                    exact ⟨by simp, _, _, _, rfl, rfl, H9.out⟩
                  case measure => simp [intOf]; omega
                | succ d =>
                  have HX := Lib.hid (HR3.out.trans (if_neg (by omega)))
                  obtain ⟨go, co', eo⟩ := HA.out.someO
                  injection eo with e1 e2 e3
                  subst e1 e3
                  clear e2
                  have top := (HA.out.on gl R5.out.took).top
                  have t1 := top.1
                  have t2 : (d : Int) + 1 ≤ (co : Int) := by have := top.2; omega
                  have t2' : (d : Int) ≤ (co : Int) := by omega
                  clear top
                  rw [show (((d + 1 : Nat) : Int)) = (d : Int) + 1 by omega] at t1
                  have e0 : ((d : Int) + 1 == 0) = false := by simp; omega
                  have d0 : (0 : Int) ≤ (d : Int) := by omega
                  have hd3 : (d : Int) < 3 := by have := HBB.out; omega
                  have c10 := R5.out.bb.cell' 10 rfl
                  have z10 := R5.out.bb.frozen 10
                  go_upto_region 27 with fail
                  clear c10 z10 t1
                  refine on_told (fun W => RB B g ac c T W0 w1.heap.size ⟨5, lb1, sk, ws, lf, x, (d + 1 : Nat)⟩ ⟨aw, cw, kk, kl, kx⟩ k3 W) (R5.out.put gW rr rfl fun W h => ⟨h.words, h.left, h.x⟩) fun W6 h6 => ?_
                  have F6 := Lib.hid (HA.out.with gl rr h6).popO
                  clear h6
                  go_upto_region 34 with fail
                  have bx : W6.heap[w1.heap.size]? = some (.cells #[.int .i64 5, .int .i64 lb1, .bool sk, .slice aw ws.length cw, .int .i64 lf.op, .int .i64 lf.n, .slice kl.a lf.kids.length kl.cap, .int .i64 x.op, .int .i64 x.n, .slice kx.a x.kids.length kx.cap, .int .i64 ((d : Int) + 1)] 37 (0, 0)) := F6.out.bb
                  have FG := Lib.hid (F6.out.grown gl rW (grown_alloc (grown_refl _ _) (.cells #[.int .i64 5, .int .i64 lb1, .bool sk, .slice aw ws.length cw, .int .i64 lf.op, .int .i64 lf.n, .slice kl.a lf.kids.length kl.cap, .int .i64 x.op, .int .i64 x.n, .slice kx.a x.kids.length kx.cap, .int .i64 ((d : Int) + 1)] 37)))
                  go_wp2_with (first
                    | ((with_reducible refine go_load_row 37 (.tmp 8) w1.heap.size 37 #[.int .i64 5, .int .i64 lb1, .bool sk, .slice aw ws.length cw, .int .i64 lf.op, .int .i64 lf.n, .slice kl.a lf.kids.length kl.cap, .int .i64 x.op, .int .i64 x.n, .slice kx.a x.kids.length kx.cap, .int .i64 ((d : Int) + 1)] _ rfl bx Try.underlying37 rfl (by kernel_rfl) ?_))
                    | (at_builtin; refine wpList_push rfl (.tmp 95) (.tmp 97) 22 rfl w.heap.size 37 (Value.agg #[.int .i64 0, .int .i64 0, .bool false, .slice none 0 0, .int .i64 0, .int .i64 0, .slice none 0 0, .int .i64 0, .int .i64 0, .slice none 0 0, .int .i64 0]) 11 136 Try.underlying22 infoBlock (by kernel_rfl) (by decide) (by decide) vl l.length (blksC l pl) rfl FG.out.flow.own W6.heap.size (blkC (⟨5, lb1, sk, ws, lf, x, (d + 1 : Nat)⟩ : BlkL) ⟨aw, cw, kk, kl, kx⟩) rfl (Blk.new W6 37 _) rfl blkC_one ?c0 ?c1 ?c2))
                  case c0 => have := HBB.out; have := BB.out; omega
                  case c1 => have := FG.out.flow.took.size; simp at this ⊢; omega
                  case c2 =>
                    intro gg cc w9 hp
                    have H9 := Lib.hid (FG.out.pushB gl hp)
                    clear hp bx
                    go_wp2_with fail
                    go_roundw
                    case rel =>
                      refine ⟨i + 1, n - 1, by omega, by go_num, ?_⟩
                      rw [HX.out]
                      exact ⟨by simp, _, _, _, rfl, rfl, H9.out⟩
                    case measure => simp [intOf]; omega
              have f5 : (kd == 5) = false := by simpa using h5
              have HR6 := Lib.hid (HR5.out.trans (if_neg h5))
              clear HR5
              have KR := Lib.hid (fun W hW => range_any W B g ac c T k3 1 (la + 1 + 1 : Nat) hW (by omega) (by omega) (by omega))
              have r1 := rangeF_lo T k3 (lo := 1) (hi := (la + 1 + 1 : Nat)) (by omega)
              have r2 := rangeF_hi T k3 (lo := 1) (hi := (la + 1 + 1 : Nat)) (by omega)
              by_cases h2 : kd = 2
              · subst h2
                have HR3 := Lib.hid (HR6.out.trans (if_pos rfl))
                clear HR6
                generalize rangeF T k3 1 (la + 1 + 1 : Nat) = s at *
                obtain ⟨rv, k4⟩ := s
                dsimp only at *
                have HX := Lib.hid HR3.out
                clear HR3
                rw [show (((la + 1 + 1 : Nat) : Int)) = (la : Int) + 1 + 1 by omega] at KR r2
                go_wp2_with fail
                refine (KR.out _ R5.out.took.src).mono ?_
                rintro e w5 ⟨rfl, t5⟩
                have R6 := Lib.hid (R5.out.on gW rr t5)
                clear t5
                have c8 := R6.out.bb.cell' 8 rfl
                have z8 := R6.out.bb.frozen 8
                go_upto_region 34 with fail
                clear c8 z8
                refine on_told (fun W => RB B g ac c T W0 w1.heap.size ⟨2, lb1, sk, ws, lf, setN x (rv * 1000000), bn⟩ ⟨aw, cw, kk, kl, kx⟩ k4 W) (R6.out.put gW rr rfl fun W h => ⟨h.words, h.left, h.x.setN _⟩) fun W6 h6 => ?_
                have F6 := Lib.hid (HA.out.with gl rr h6)
                clear h6
                have bx : W6.heap[w1.heap.size]? = some (.cells #[.int .i64 2, .int .i64 lb1, .bool sk, .slice aw ws.length cw, .int .i64 lf.op, .int .i64 lf.n, .slice kl.a lf.kids.length kl.cap, .int .i64 x.op, .int .i64 (rv * 1000000), .slice kx.a x.kids.length kx.cap, .int .i64 bn] 37 (0, 0)) := F6.out.bb
                have FG := Lib.hid (F6.out.grown gl rW (grown_alloc (grown_refl _ _) (.cells #[.int .i64 2, .int .i64 lb1, .bool sk, .slice aw ws.length cw, .int .i64 lf.op, .int .i64 lf.n, .slice kl.a lf.kids.length kl.cap, .int .i64 x.op, .int .i64 (rv * 1000000), .slice kx.a x.kids.length kx.cap, .int .i64 bn] 37)))
                go_wp2_with (first
                  | ((with_reducible refine go_load_row 37 (.tmp 8) w1.heap.size 37 #[.int .i64 2, .int .i64 lb1, .bool sk, .slice aw ws.length cw, .int .i64 lf.op, .int .i64 lf.n, .slice kl.a lf.kids.length kl.cap, .int .i64 x.op, .int .i64 (rv * 1000000), .slice kx.a x.kids.length kx.cap, .int .i64 bn] _ rfl bx Try.underlying37 rfl (by kernel_rfl) ?_))
                  | (at_builtin; refine wpList_push rfl (.tmp 95) (.tmp 97) 22 rfl w.heap.size 37 (Value.agg #[.int .i64 0, .int .i64 0, .bool false, .slice none 0 0, .int .i64 0, .int .i64 0, .slice none 0 0, .int .i64 0, .int .i64 0, .slice none 0 0, .int .i64 0]) 11 136 Try.underlying22 infoBlock (by kernel_rfl) (by decide) (by decide) vl l.length (blksC l pl) rfl FG.out.flow.own W6.heap.size (blkC (⟨2, lb1, sk, ws, lf, setN x (rv * 1000000), bn⟩ : BlkL) ⟨aw, cw, kk, kl, kx⟩) rfl (Blk.new W6 37 _) rfl blkC_one ?c0 ?c1 ?c2))
                case c0 => have := HBB.out; have := BB.out; omega
                case c1 => have := FG.out.flow.took.size; simp at this ⊢; omega
                case c2 =>
                  intro gg cc w9 hp
                  have H9 := Lib.hid (FG.out.pushB gl hp)
                  clear hp bx
                  go_wp2_with fail
                  go_roundw
                  case rel =>
                    refine ⟨i + 1, n - 1, by omega, by go_num, ?_⟩
                    rw [HX.out]
                    exact ⟨by simp, _, _, _, rfl, rfl, H9.out⟩
                  case measure => simp [intOf]; omega
              have f2 : (kd == 2) = false := by simpa using h2
              have HR7 := Lib.hid (HR6.out.trans (if_neg h2))
              clear HR6
              by_cases h3 : kd = 3
              · subst h3
                have HR3 := Lib.hid (HR7.out.trans (if_pos rfl))
                clear HR7
                generalize rangeF T k3 1 (la + 1 + 1 : Nat) = s at *
                obtain ⟨rv, k4⟩ := s
                dsimp only at *
                have HX := Lib.hid HR3.out
                clear HR3
                rw [show (((la + 1 + 1 : Nat) : Int)) = (la : Int) + 1 + 1 by omega] at KR r2
                go_wp2_with fail
                refine (KR.out _ R5.out.took.src).mono ?_
                rintro e w5 ⟨rfl, t5⟩
                have R6 := Lib.hid (R5.out.on gW rr t5)
                clear t5
                have c5 := R6.out.bb.cell' 5 rfl
                have z5 := R6.out.bb.frozen 5
                go_upto_region 34 with fail
                clear c5 z5
                refine on_told (fun W => RB B g ac c T W0 w1.heap.size ⟨3, lb1, sk, ws, setN lf (rv * 1000000), x, bn⟩ ⟨aw, cw, kk, kl, kx⟩ k4 W) (R6.out.put gW rr rfl fun W h => ⟨h.words, h.left.setN _, h.x⟩) fun W6 h6 => ?_
                have F6 := Lib.hid (HA.out.with gl rr h6)
                clear h6
                have bx : W6.heap[w1.heap.size]? = some (.cells #[.int .i64 3, .int .i64 lb1, .bool sk, .slice aw ws.length cw, .int .i64 lf.op, .int .i64 (rv * 1000000), .slice kl.a lf.kids.length kl.cap, .int .i64 x.op, .int .i64 x.n, .slice kx.a x.kids.length kx.cap, .int .i64 bn] 37 (0, 0)) := F6.out.bb
                have FG := Lib.hid (F6.out.grown gl rW (grown_alloc (grown_refl _ _) (.cells #[.int .i64 3, .int .i64 lb1, .bool sk, .slice aw ws.length cw, .int .i64 lf.op, .int .i64 (rv * 1000000), .slice kl.a lf.kids.length kl.cap, .int .i64 x.op, .int .i64 x.n, .slice kx.a x.kids.length kx.cap, .int .i64 bn] 37)))
                go_wp2_with (first
                  | ((with_reducible refine go_load_row 37 (.tmp 8) w1.heap.size 37 #[.int .i64 3, .int .i64 lb1, .bool sk, .slice aw ws.length cw, .int .i64 lf.op, .int .i64 (rv * 1000000), .slice kl.a lf.kids.length kl.cap, .int .i64 x.op, .int .i64 x.n, .slice kx.a x.kids.length kx.cap, .int .i64 bn] _ rfl bx Try.underlying37 rfl (by kernel_rfl) ?_))
                  | (at_builtin; refine wpList_push rfl (.tmp 95) (.tmp 97) 22 rfl w.heap.size 37 (Value.agg #[.int .i64 0, .int .i64 0, .bool false, .slice none 0 0, .int .i64 0, .int .i64 0, .slice none 0 0, .int .i64 0, .int .i64 0, .slice none 0 0, .int .i64 0]) 11 136 Try.underlying22 infoBlock (by kernel_rfl) (by decide) (by decide) vl l.length (blksC l pl) rfl FG.out.flow.own W6.heap.size (blkC (⟨3, lb1, sk, ws, setN lf (rv * 1000000), x, bn⟩ : BlkL) ⟨aw, cw, kk, kl, kx⟩) rfl (Blk.new W6 37 _) rfl blkC_one ?c0 ?c1 ?c2))
                case c0 => have := HBB.out; have := BB.out; omega
                case c1 => have := FG.out.flow.took.size; simp at this ⊢; omega
                case c2 =>
                  intro gg cc w9 hp
                  have H9 := Lib.hid (FG.out.pushB gl hp)
                  clear hp bx
                  go_wp2_with fail
                  go_roundw
                  case rel =>
                    refine ⟨i + 1, n - 1, by omega, by go_num, ?_⟩
                    rw [HX.out]
                    exact ⟨by simp, _, _, _, rfl, rfl, H9.out⟩
                  case measure => simp [intOf]; omega
              have f3 : (kd == 3) = false := by simpa using h3
              have HR8 := Lib.hid (HR7.out.trans (if_neg h3))
              clear HR7 KR r1 r2
              by_cases h0 : kd = 0
              · subst h0
                have HX := Lib.hid (HR8.out.trans (if_pos rfl))
                clear HR8
                have rl5 : w1.heap.size < wc.heap.size := R5.out.bb.lt
                have KC := Lib.hid (called_any wc B g ac c T k3 R5.out.took.src (fun q => W0.heap.size ≤ q ∧ q ≠ w1.heap.size) ⟨0, lb1, sk, ws, lf, x, bn⟩ ⟨aw, cw, kk, kl, kx⟩ (fun hq => by omega) (fun q hq => by have := R5.out.took.size; omega) R5.out.blk)
                generalize calledF T k3 ws = s at *
                obtain ⟨ws2, k4⟩ := s
                dsimp only at *
                have bx : wc.heap[w1.heap.size]? = some (.cells #[.int .i64 0, .int .i64 lb1, .bool sk, .slice aw ws.length cw, .int .i64 lf.op, .int .i64 lf.n, .slice kl.a lf.kids.length kl.cap, .int .i64 x.op, .int .i64 x.n, .slice kx.a x.kids.length kx.cap, .int .i64 bn] 37 (0, 0)) := R5.out.bb
                go_wp2_with ((with_reducible refine go_load_row 37 (.tmp 8) w1.heap.size 37 #[.int .i64 0, .int .i64 lb1, .bool sk, .slice aw ws.length cw, .int .i64 lf.op, .int .i64 lf.n, .slice kl.a lf.kids.length kl.cap, .int .i64 x.op, .int .i64 x.n, .slice kx.a x.kids.length kx.cap, .int .i64 bn] _ rfl bx Try.underlying37 rfl (by kernel_rfl) ?_))
                clear bx
                refine KC.out.mono ?_
                rintro e w5 ⟨p2, rfl, hb5, t5⟩
                have R6 := Lib.hid (R5.out.on gW rr t5)
                have HB5 := Lib.hid hb5
                clear t5 hb5 KC R5 rl5
                obtain ⟨aw2, cw2, kk2, kl2, kx2⟩ := p2
                have bx : w5.heap[w1.heap.size]? = some (.cells #[.int .i64 0, .int .i64 lb1, .bool sk, .slice aw ws.length cw, .int .i64 lf.op, .int .i64 lf.n, .slice kl.a lf.kids.length kl.cap, .int .i64 x.op, .int .i64 x.n, .slice kx.a x.kids.length kx.cap, .int .i64 bn] 37 (0, 0)) := R6.out.bb
                dsimp only [blkC]
                go_upto_region 34 with ((with_reducible refine go_store_row 37 (.tmp 8) (.tmp 94) w1.heap.size #[.int .i64 0, .int .i64 lb1, .bool sk, .slice aw2 ws2.length cw2, .int .i64 lf.op, .int .i64 lf.n, .slice kl2.a lf.kids.length kl2.cap, .int .i64 x.op, .int .i64 x.n, .slice kx2.a x.kids.length kx2.cap, .int .i64 bn] 37 #[.int .i64 0, .int .i64 lb1, .bool sk, .slice aw ws.length cw, .int .i64 lf.op, .int .i64 lf.n, .slice kl.a lf.kids.length kl.cap, .int .i64 x.op, .int .i64 x.n, .slice kx.a x.kids.length kx.cap, .int .i64 bn] (by with_unfolding_all rfl) (by with_unfolding_all rfl) bx (by with_unfolding_all kernel_rfl) (by with_unfolding_all rfl) (by with_unfolding_all rfl) ?_))
                refine on_told (fun W => RB B g ac c T W0 w1.heap.size ⟨0, lb1, sk, ws2, lf, x, bn⟩ ⟨aw2, cw2, kk2, kl2, kx2⟩ k4 W) (R6.out.row gW rr HB5.out) fun W6 h6 => ?_
                have F6 := Lib.hid (HA.out.with gl rr h6)
                clear h6 bx
                have bx : W6.heap[w1.heap.size]? = some (.cells #[.int .i64 0, .int .i64 lb1, .bool sk, .slice aw2 ws2.length cw2, .int .i64 lf.op, .int .i64 lf.n, .slice kl2.a lf.kids.length kl2.cap, .int .i64 x.op, .int .i64 x.n, .slice kx2.a x.kids.length kx2.cap, .int .i64 bn] 37 (0, 0)) := F6.out.bb
                have FG := Lib.hid (F6.out.grown gl rW (grown_alloc (grown_refl _ _) (.cells #[.int .i64 0, .int .i64 lb1, .bool sk, .slice aw2 ws2.length cw2, .int .i64 lf.op, .int .i64 lf.n, .slice kl2.a lf.kids.length kl2.cap, .int .i64 x.op, .int .i64 x.n, .slice kx2.a x.kids.length kx2.cap, .int .i64 bn] 37)))
                go_wp2_with (first
                  | ((with_reducible refine go_load_row 37 (.tmp 8) w1.heap.size 37 #[.int .i64 0, .int .i64 lb1, .bool sk, .slice aw2 ws2.length cw2, .int .i64 lf.op, .int .i64 lf.n, .slice kl2.a lf.kids.length kl2.cap, .int .i64 x.op, .int .i64 x.n, .slice kx2.a x.kids.length kx2.cap, .int .i64 bn] _ rfl bx Try.underlying37 rfl (by kernel_rfl) ?_))
                  | (at_builtin; refine wpList_push rfl (.tmp 95) (.tmp 97) 22 rfl w.heap.size 37 (Value.agg #[.int .i64 0, .int .i64 0, .bool false, .slice none 0 0, .int .i64 0, .int .i64 0, .slice none 0 0, .int .i64 0, .int .i64 0, .slice none 0 0, .int .i64 0]) 11 136 Try.underlying22 infoBlock (by kernel_rfl) (by decide) (by decide) vl l.length (blksC l pl) rfl FG.out.flow.own W6.heap.size (blkC (⟨0, lb1, sk, ws2, lf, x, bn⟩ : BlkL) ⟨aw2, cw2, kk2, kl2, kx2⟩) rfl (Blk.new W6 37 _) rfl blkC_one ?c0 ?c1 ?c2))
                case c0 => have := HBB.out; have := BB.out; omega
                case c1 => have := FG.out.flow.took.size; simp at this ⊢; omega
                case c2 =>
                  intro gg cc w9 hp
                  have H9 := Lib.hid (FG.out.pushB gl hp)
                  clear hp bx
                  go_wp2_with fail
                  go_roundw
                  case rel =>
                    refine ⟨i + 1, n - 1, by omega, by go_num, ?_⟩
                    rw [HX.out]
                    exact ⟨by simp, _, _, _, rfl, rfl, H9.out⟩
                  case measure => simp [intOf]; omega
              · have f0 : (kd == 0) = false := by simpa using h0
                have HX := Lib.hid (HR8.out.trans (if_neg h0))
                clear HR8
                have F6 := Lib.hid (HA.out.with gl rr R5.out)
                go_upto_region 34 with fail
                have bx : wc.heap[w1.heap.size]? = some (.cells #[.int .i64 kd, .int .i64 lb1, .bool sk, .slice aw ws.length cw, .int .i64 lf.op, .int .i64 lf.n, .slice kl.a lf.kids.length kl.cap, .int .i64 x.op, .int .i64 x.n, .slice kx.a x.kids.length kx.cap, .int .i64 bn] 37 (0, 0)) := F6.out.bb
                have FG := Lib.hid (F6.out.grown gl rW (grown_alloc (grown_refl _ _) (.cells #[.int .i64 kd, .int .i64 lb1, .bool sk, .slice aw ws.length cw, .int .i64 lf.op, .int .i64 lf.n, .slice kl.a lf.kids.length kl.cap, .int .i64 x.op, .int .i64 x.n, .slice kx.a x.kids.length kx.cap, .int .i64 bn] 37)))
                go_wp2_with (first
                  | ((with_reducible refine go_load_row 37 (.tmp 8) w1.heap.size 37 #[.int .i64 kd, .int .i64 lb1, .bool sk, .slice aw ws.length cw, .int .i64 lf.op, .int .i64 lf.n, .slice kl.a lf.kids.length kl.cap, .int .i64 x.op, .int .i64 x.n, .slice kx.a x.kids.length kx.cap, .int .i64 bn] _ rfl bx Try.underlying37 rfl (by kernel_rfl) ?_))
                  | (at_builtin; refine wpList_push rfl (.tmp 95) (.tmp 97) 22 rfl w.heap.size 37 (Value.agg #[.int .i64 0, .int .i64 0, .bool false, .slice none 0 0, .int .i64 0, .int .i64 0, .slice none 0 0, .int .i64 0, .int .i64 0, .slice none 0 0, .int .i64 0]) 11 136 Try.underlying22 infoBlock (by kernel_rfl) (by decide) (by decide) vl l.length (blksC l pl) rfl FG.out.flow.own wc.heap.size (blkC (⟨kd, lb1, sk, ws, lf, x, bn⟩ : BlkL) ⟨aw, cw, kk, kl, kx⟩) rfl (Blk.new wc 37 _) rfl blkC_one ?c0 ?c1 ?c2))
                case c0 => have := HBB.out; have := BB.out; omega
                case c1 => have := FG.out.flow.took.size; simp at this ⊢; omega
                case c2 =>
                  intro gg cc w9 hp
                  have H9 := Lib.hid (FG.out.pushB gl hp)
                  clear hp bx
                  go_wp2_with fail
                  go_roundw
                  case rel =>
                    refine ⟨i + 1, n - 1, by omega, by go_num, ?_⟩
                    rw [HX.out]
                    exact ⟨by simp, _, _, _, rfl, rfl, H9.out⟩
                  case measure => simp [intOf]; omega
          · obtain rfl : n = 0 := by omega
            obtain rfl : i = m := by omega
            have HPN := Lib.hid (HP.out.trans (show _ = (⟨l ++ closeL d, la, 0, k⟩ : FS) by rw [hS]))
            have HBB := Lib.hid hbd
            clear hS hns hbd HP HRS
            rw [show ((0 : Nat) : Int) = 0 from rfl]
            go_wp2_with fail
            go_loopw [3, 6] (fun s3 s6 W => ∃ (l' : List BlkL) (e : Nat) (vl vo : Value) (pl : Nat → Place), vl = s3 ∧ vo = s6 ∧ l' ++ closeL e = l ++ closeL d ∧ l'.length + e = l.length + d ∧ FlowAt B g ac c T w l' e k vl vo pl W) (fun _ s _ => lenV s)
            case atStart => exact ⟨l, d, _, _, _, rfl, rfl, rfl, rfl, HA.out⟩
            case round =>
              obtain ⟨l', e, vl, vo, pl, rfl, rfl, hle, hlen', hat⟩ := hrel
              rename World => W0
              have HA := Lib.hid hat
              have HLE := Lib.hid (And.intro hle hlen')
              clear hat hle hlen'
              have hd3 : d ≤ 3 := HBB.out.2.2
              have he3 : e ≤ 1000 := by have := HBB.out; have := BB.out; have := HLE.out.2; omega
              cases e with
              | zero =>
                obtain ⟨ao, co, rfl⟩ := HA.out.formO
                go_wp2_with fail
                go_roundw
                case rel =>
                  refine ⟨p + 1, by omega, by go_num, ?_⟩
                  rw [HPN.out]
                  have := HLE.out.1
                  rw [show closeL 0 = [] from rfl, List.append_nil] at this
                  exact ⟨rfl, _, _, rfl, by rw [← this]; exact HA.out.noOp⟩
                case measure => simp [intOf]; omega
              | succ e =>
                obtain ⟨go, co, rfl⟩ := HA.out.someO
                have top := HA.out.top
                have t1 := top.1
                have t2 : (e : Int) + 1 ≤ (co : Int) := by have := top.2; omega
                have t2' : (e : Int) ≤ (co : Int) := by omega
                clear top
                rw [show (((e + 1 : Nat) : Int)) = (e : Int) + 1 by omega] at t1
                have e0 : (0 : Int) ≤ (e : Int) := by omega
                have d1 : decide (0 < (e : Int) + 1) = true := decide_eq_true (by omega)
                have FG := Lib.hid (HA.out.grown gl (grown_alloc (grown_refl _ _) (.cells (blkC (endB (e + 1)) plN).toArray 37)))
                go_wp2_with (at_builtin; refine wpList_push rfl (.tmp 102) (.tmp 110) 22 rfl w.heap.size 37 (Value.agg #[.int .i64 0, .int .i64 0, .bool false, .slice none 0 0, .int .i64 0, .int .i64 0, .slice none 0 0, .int .i64 0, .int .i64 0, .slice none 0 0, .int .i64 0]) 11 136 Try.underlying22 infoBlock (by kernel_rfl) (by decide) (by decide) vl l'.length (blksC l' pl) rfl FG.out.own W0.heap.size (blkC (endB (e + 1)) plN) rfl (Blk.new W0 37 _) rfl blkC_one ?c0 ?c1 ?c2)
                case c0 => have := HBB.out; have := BB.out; have := HLE.out.2; omega
                case c1 => have := FG.out.took.size; simp at this ⊢; omega
                case c2 =>
                  intro gg cc w9 hp
                  have H9 := Lib.hid (FG.out.pushB gl (b := endB (e + 1)) (BlkP.plain _ _ _ _ _ _ _ _ _ _) hp).popO
                  clear hp t1
                  go_wp2_with fail
                  go_roundw
                  case rel =>
                    exact ⟨l' ++ [endB (e + 1)], e, _, _, _, rfl, rfl, by rw [List.append_assoc]; exact HLE.out.1, by have := HLE.out.2; simp; omega, H9.out⟩
                  case measure => simp [lenV]
    · obtain rfl : p = 3 := by omega
      obtain ⟨a, cap, rfl, hbs⟩ := HA.out.done
      have HBS := Lib.hid hbs
      clear hbs
      go_wp2_with fail
      go_ret
      exact ⟨a, cap, pl, rfl, HBS.out, _, HA.out.took⟩
end Go.Proofs.Yteiogjgmedikhaa

namespace Go.Proofs.Yteiogjgmedikhaa
open Go Go.RowKit
set_option linter.unusedVariables false

/-- The blocks l: labels up to lab, d loops open, programs 0 .. P. -/
structure RunOK (l : List BlkL) (lab d P : Nat) : Prop where
  valid : ∀ b ∈ l, validB b = true
  labs : ∀ b ∈ l, 0 ≤ b.label ∧ b.label ≤ lab
  asc : ∀ (i j : Nat) (a b : BlkL), i < j → l[i]? = some a → l[j]? = some b → b.label ≠ 0 → a.label < b.label
  run : ∀ bs : List BlkL, (∀ i, i < l.length → bs[i]? = l[i]?) → ∃ s, runB bs l.length = .ok s ∧ s.progs.map (·.1) = (List.range (P + 1)).map (fun n : Nat => (n : Int)) ∧ s.op.length = d ∧ ∀ (j w : Nat), s.op[j]? = some w → w < l.length ∧ nOf bs w = ((j + 1 : Nat) : Int)
theorem RunOK.start : RunOK [] 0 0 0 :=
  ⟨by simp, by simp, fun i j a b _ h => by simp at h, fun bs _ => ⟨⟨[(0, 0)], [], []⟩, rfl, rfl, rfl, fun j w h => by simp at h⟩⟩
theorem RunOK.more {l : List BlkL} {lab lab' d P : Nat} (h : RunOK l lab d P) (hl : lab ≤ lab') : RunOK l lab' d P :=
  ⟨h.valid, fun b hb => by have := h.labs b hb; omega, h.asc, h.run⟩
theorem RunOK.push {l : List BlkL} {lab d P : Nat} (h : RunOK l lab d P) {b : BlkL} {lab' d' P' : Nat} (hv : validB b = true) (hl : lab ≤ lab') (hb : 0 ≤ b.label ∧ b.label ≤ lab') (hn : b.label ≠ 0 → (lab : Int) < b.label)
    (hk : (b.kind ≠ 4 ∧ b.kind ≠ 5 ∧ b.kind ≠ 6 ∧ d' = d ∧ P' = P) ∨ (b.kind = 4 ∧ b.n = ((d + 1 : Nat) : Int) ∧ d' = d + 1 ∧ P' = P) ∨ (b.kind = 5 ∧ 0 < d ∧ b.n = (d : Int) ∧ d' = d - 1 ∧ P' = P) ∨ (b.kind = 6 ∧ d = 0 ∧ d' = 0 ∧ b.n = ((P + 1 : Nat) : Int) ∧ P' = P + 1)) :
    RunOK (l ++ [b]) lab' d' P' := by
  refine ⟨fun x hx => ?_, fun x hx => ?_, fun i j x y hij hx hy hy0 => ?_, fun bs hp => ?_⟩
  · rcases List.mem_append.1 hx with hx | hx
    · exact h.valid x hx
    · simp at hx; subst hx; exact hv
  · rcases List.mem_append.1 hx with hx | hx
    · have := h.labs x hx; omega
    · simp at hx; subst hx; exact hb
  · have hj : j < (l ++ [b]).length := (List.getElem?_eq_some_iff.1 hy).1
    simp at hj
    rw [List.getElem?_append_left (by omega)] at hx
    by_cases e : j = l.length
    · subst e
      rw [List.getElem?_concat_length] at hy
      injection hy with hy
      subst hy
      have := h.labs x (List.mem_of_getElem? hx)
      have := hn hy0
      omega
    · rw [List.getElem?_append_left (by omega)] at hy
      exact h.asc i j x y hij hx hy hy0
  · have hp' : ∀ i, i < l.length → bs[i]? = l[i]? := fun i hi => by rw [hp i (by simp; omega), List.getElem?_append_left hi]
    have hbb : bs[l.length]? = some b := by rw [hp l.length (by simp), List.getElem?_concat_length]
    have hlen : l.length < bs.length := (List.getElem?_eq_some_iff.1 hbb).1
    obtain ⟨s, hr, hP, hd, ho⟩ := h.run bs hp'
    have hstep : runB bs (l ++ [b]).length = stepB bs b l.length s := by
      rw [List.length_append, List.length_singleton]
      show (match runB bs l.length with | .err a e => Res.err a e | .ok s => match bs[l.length]? with | some b => stepB bs b l.length s | none => .ok s) = _
      rw [hr]
      simp only [hbb]
    have hdl : dupL bs b l.length s = false := by
      unfold dupL
      refine decide_eq_false ?_
      rintro ⟨h0, hm⟩
      rw [labelsOf_mem h0 (by omega)] at hm
      obtain ⟨k, b', _, h2, h3, h4⟩ := hm
      rw [hp' k h2] at h3
      have := h.labs b' (List.mem_of_getElem? h3)
      have := hn (by omega)
      omega
    have hopn : d = 0 → s.op = [] := fun e => List.length_eq_zero_iff.1 (by omega)
    have hlenA : (l ++ [b]).length = l.length + 1 := by simp
    rw [hstep, hlenA]
    unfold stepB
    rcases hk with ⟨k4, k5, k6, rfl, rfl⟩ | ⟨k4, kn, rfl, rfl⟩ | ⟨k5, kd, kn, rfl, rfl⟩ | ⟨k6, kd, rfl, kn, rfl⟩
    · rw [if_neg (by omega), if_neg (by omega), hdl, if_neg (by decide), if_neg k4, if_neg k5]
      refine ⟨_, rfl, ?_, hd, fun j w hw => ?_⟩
      · unfold progsB; rw [if_neg k6]; exact hP
      · have := ho j w hw; exact ⟨by omega, this.2⟩
    · have hsn : sameN bs b s = false := by
        unfold sameN
        rw [List.any_eq_false]
        intro w hw
        obtain ⟨j, hj⟩ := List.mem_iff_getElem?.1 hw
        have h1 := ho j w hj
        have h2 : j < s.op.length := (List.getElem?_eq_some_iff.1 hj).1
        simp only [decide_eq_true_eq]
        omega
      rw [if_neg (by omega), if_neg (by omega), hdl, if_neg (by decide), if_pos k4, hsn, if_neg (by decide)]
      refine ⟨_, rfl, ?_, by simp [hd], fun j w hw => ?_⟩
      · unfold progsB; rw [if_neg (by omega)]; exact hP
      · have h2 : j < (s.op ++ [l.length]).length := (List.getElem?_eq_some_iff.1 hw).1
        simp at h2
        by_cases e : j = s.op.length
        · subst e
          rw [List.getElem?_concat_length] at hw
          injection hw with hw
          subst hw
          refine ⟨by omega, ?_⟩
          unfold nOf
          rw [hbb]
          simp only
          rw [kn]; omega
        · rw [List.getElem?_append_left (by omega)] at hw
          have := ho j w hw; exact ⟨by omega, this.2⟩
    · have hne : s.op ≠ [] := by intro e; rw [e] at hd; simp at hd; omega
      have ht := topOf_at hne
      rw [hd] at ht
      have h1 := ho (d - 1) _ ht
      rw [if_neg (by omega), if_neg (by omega), hdl, if_neg (by decide), if_neg (by omega), if_pos k5, if_neg (by
        rintro (e | e)
        · exact hne e
        · apply e; rw [h1.2, kn]; omega)]
      refine ⟨_, rfl, ?_, by simp [hd], fun j w hw => ?_⟩
      · unfold progsB; rw [if_neg (by omega)]; exact hP
      · rw [List.getElem?_dropLast] at hw
        split at hw
        · have := ho j w hw; exact ⟨by omega, this.2⟩
        · cases hw
    · have hdn : dupN b s = false := by
        unfold dupN
        rw [hP]
        refine decide_eq_false fun hm => ?_
        obtain ⟨n, hn, e⟩ := List.mem_map.1 hm
        rw [List.mem_range] at hn
        rw [kn] at e
        have : n = P + 1 := Int.ofNat.inj e
        omega
      have hop := hopn kd
      rw [if_neg (by rw [hop]; simp), hdn, if_neg (by simp), hdl, if_neg (by decide), if_neg (by omega), if_neg (by omega)]
      refine ⟨_, rfl, ?_, by show s.op.length = 0; rw [hop]; rfl, fun j w hw => ?_⟩
      · unfold progsB
        rw [if_pos k6, List.map_append, hP, List.range_succ (n := P + 1), List.map_append, List.map_cons, List.map_cons, kn]
        rfl
      · simp only [hop] at hw; simp at hw

/-! ### Validity of what is changed -/
def bodyOK (b : BlkL) : Prop :=
  (b.kind = 0 ∧ zeroE b.left = true ∧ zeroE b.x = true ∧ b.n = 0 ∧ b.words.all wordB = true)
  ∨ (b.kind = 1 ∧ b.words = [] ∧ rightE 16 b.left = true ∧ rightE 16 b.x = true ∧ b.n = 0)
  ∨ (b.kind = 2 ∧ b.words = [] ∧ zeroE b.left = true ∧ rightE 16 b.x = true ∧ b.n = 0)
  ∨ (b.kind = 3 ∧ b.words = [] ∧ rightE 16 b.left = true ∧ rightE 16 b.x = true ∧ b.n = 0)
  ∨ (b.kind = 4 ∧ b.words = [] ∧ zeroE b.left = true ∧ rightE 16 b.x = true ∧ 1 ≤ b.n ∧ b.n ≤ 3)
  ∨ (b.kind = 5 ∧ b.words = [] ∧ zeroE b.left = true ∧ zeroE b.x = true ∧ 1 ≤ b.n ∧ b.n ≤ 3)
  ∨ (b.kind = 6 ∧ b.words = [] ∧ zeroE b.left = true ∧ zeroE b.x = true ∧ 1 ≤ b.n ∧ b.n ≤ 99999)
theorem valid_iff (b : BlkL) : validB b = true ↔ (0 ≤ b.label ∧ b.label ≤ 99999 ∧ b.words.length ≤ 24) ∧ bodyOK b := by
  obtain ⟨kd, lab, sk, ws, lf, x, n⟩ := b
  unfold validB bodyOK
  simp only
  by_cases hl : lab < 0 ∨ 99999 < lab ∨ 24 < ws.length
  · rw [if_pos hl]
    constructor
    · intro h; cases h
    · rintro ⟨h, _⟩; omega
  rw [if_neg hl]
  have hl' : 0 ≤ lab ∧ lab ≤ 99999 ∧ ws.length ≤ 24 := by omega
  have hk : kd = 0 ∨ kd = 1 ∨ kd = 2 ∨ kd = 3 ∨ kd = 4 ∨ kd = 5 ∨ kd = 6 ∨ (kd < 0 ∨ 6 < kd) := by omega
  rcases hk with rfl | rfl | rfl | rfl | rfl | rfl | rfl | hk
  · simp [hl', and_assoc]
  · simp [hl']
  · simp [hl']
  · simp [hl']
  · simp [hl']
  · simp [hl']
  · simp [hl']
  · rw [if_neg (by omega), if_pos hk]
    constructor
    · intro h; cases h
    · rintro ⟨_, h⟩
      omega
theorem valid_lab {b : BlkL} (h : validB b = true) {lb : Int} (hl : 0 ≤ lb ∧ lb ≤ 99999) : validB (labB b lb) = true := by
  rw [valid_iff] at h ⊢
  exact ⟨⟨hl.1, hl.2, h.1.2.2⟩, h.2⟩
theorem valid_n {b : BlkL} (h : validB b = true) (hk : b.kind = 4 ∨ b.kind = 5) {n : Int} (hn : 1 ≤ n ∧ n ≤ 3) : validB ⟨b.kind, b.label, b.skip, b.words, b.left, b.x, n⟩ = true := by
  rw [valid_iff] at h ⊢
  refine ⟨h.1, ?_⟩
  rcases hk with hk | hk
  · rcases h.2 with h | h | h | h | h | h | h
    all_goals first | (exfalso; have := h.1; omega) | skip
    exact .inr (.inr (.inr (.inr (.inl ⟨hk, h.2.1, h.2.2.1, h.2.2.2.1, hn⟩))))
  · rcases h.2 with h | h | h | h | h | h | h
    all_goals first | (exfalso; have := h.1; omega) | skip
    exact .inr (.inr (.inr (.inr (.inr (.inl ⟨hk, h.2.1, h.2.2.1, h.2.2.2.1, hn⟩)))))
theorem valid_words {b : BlkL} (h : validB b = true) (hk : b.kind = 0) {ws : List WordL} (hw : ws.length ≤ 24 ∧ ∀ x ∈ ws, wordB x = true) : validB ⟨b.kind, b.label, b.skip, ws, b.left, b.x, b.n⟩ = true := by
  rw [valid_iff] at h ⊢
  refine ⟨⟨h.1.1, h.1.2.1, hw.1⟩, ?_⟩
  rcases h.2 with h | h | h | h | h | h | h
  all_goals first | (exfalso; have := h.1; omega) | skip
  exact .inl ⟨hk, h.2.1, h.2.2.1, h.2.2.2.1, List.all_eq_true.2 hw.2⟩
theorem valid_words0 {b : BlkL} (h : validB b = true) (hk : b.kind = 0) : b.words.length ≤ 24 ∧ ∀ x ∈ b.words, wordB x = true := by
  rw [valid_iff] at h
  refine ⟨h.1.2.2, ?_⟩
  rcases h.2 with h | h | h | h | h | h | h
  all_goals first | (exfalso; have := h.1; omega) | skip
  exact List.all_eq_true.1 h.2.2.2.2
theorem valid_x {b : BlkL} (h : validB b = true) (hk : b.kind = 2) {n m : Int} (hx : b.x = leafE m) (hn : 0 ≤ n ∧ n < 1000000000000000) : validB ⟨b.kind, b.label, b.skip, b.words, b.left, setN b.x n, b.n⟩ = true := by
  rw [valid_iff] at h ⊢
  refine ⟨h.1, ?_⟩
  rcases h.2 with h | h | h | h | h | h | h
  all_goals first | (exfalso; have := h.1; omega) | skip
  exact .inr (.inr (.inl ⟨hk, h.2.1, h.2.2.1, by show rightE 16 (setN b.x n) = true; rw [hx]; exact right_leaf 15 hn, h.2.2.2.2⟩))
theorem valid_left {b : BlkL} (h : validB b = true) (hk : b.kind = 3) {n m : Int} (hx : b.left = leafE m) (hn : 0 ≤ n ∧ n < 1000000000000000) : validB ⟨b.kind, b.label, b.skip, b.words, setN b.left n, b.x, b.n⟩ = true := by
  rw [valid_iff] at h ⊢
  refine ⟨h.1, ?_⟩
  rcases h.2 with h | h | h | h | h | h | h
  all_goals first | (exfalso; have := h.1; omega) | skip
  exact .inr (.inr (.inr (.inl ⟨hk, h.2.1, by show rightE 16 (setN b.left n) = true; rw [hx]; exact right_leaf 15 hn, h.2.2.2.1, h.2.2.2.2⟩)))
theorem blockF_leaf (T : Tp) (k : Nat) : ((blockF T k).1.kind = 2 → ∃ m, (blockF T k).1.x = leafE m) ∧ ((blockF T k).1.kind = 3 → ∃ m, (blockF T k).1.left = leafE m) := by
  unfold blockF bodyF
  split
  · exact ⟨fun h => by simp at h, fun h => by simp at h⟩
  split
  · exact ⟨fun _ => ⟨_, rfl⟩, fun h => by simp at h⟩
  split
  · exact ⟨fun h => by simp at h, fun _ => ⟨_, rfl⟩⟩
  split
  · exact ⟨fun h => by simp at h, fun h => by simp at h⟩
  split
  · exact ⟨fun h => by simp at h, fun h => by simp at h⟩
  split
  · split
    · exact ⟨fun h => by simp at h, fun h => by simp at h⟩
    · exact ⟨fun h => by simp at h, fun h => by simp at h⟩
  · exact ⟨fun h => by simp at h, fun h => by simp at h⟩
/-! ### Flowing -/
theorem turn_ok (T : Tp) {b : BlkL} {k : Nat} {s : FS} {lab P : Nat} (h : RunOK s.l lab s.d P) (hd : s.d ≤ 3) (hl : lab < s.lab) (hl2 : s.lab ≤ 1000) (hv : validB b = true) (hb : b.label = 0 ∨ b.label = s.lab)
    (h2 : b.kind = 2 → ∃ m, b.x = leafE m) (h3 : b.kind = 3 → ∃ m, b.left = leafE m) : RunOK (turnF T b k s).l s.lab (turnF T b k s).d P := by
  have r1 := rangeF_lo T k (lo := 1) (hi := (s.lab + 1 : Nat)) (by omega)
  have r2 := rangeF_hi T k (lo := 1) (hi := (s.lab + 1 : Nat)) (by omega)
  have hb1 : 0 ≤ b.label ∧ b.label ≤ s.lab := by omega
  have hb2 : b.label ≠ 0 → (lab : Int) < b.label := fun h0 => by omega
  unfold turnF
  split
  · exact h.push rfl (by omega) (by simp [zeroB]) (by simp [zeroB]) (.inl ⟨by simp [zeroB], by simp [zeroB], by simp [zeroB], rfl, rfl⟩)
  split
  · rename_i h6 h4
    split
    · exact h.more (by omega)
    · exact h.push (valid_n hv (.inl h4) (by omega)) (by omega) hb1 hb2 (.inr (.inl ⟨h4, rfl, rfl, rfl⟩))
  split
  · rename_i h6 h4 h5
    split
    · exact h.more (by omega)
    · exact h.push (valid_n hv (.inr h5) (by omega)) (by omega) hb1 hb2 (.inr (.inr (.inl ⟨h5, by omega, rfl, rfl, rfl⟩)))
  split
  · rename_i h6 h4 h5 hk
    obtain ⟨m, hm⟩ := h2 hk
    exact h.push (valid_x hv hk hm (by omega)) (by omega) hb1 hb2 (.inl ⟨h4, h5, h6, rfl, rfl⟩)
  split
  · rename_i h6 h4 h5 _ hk
    obtain ⟨m, hm⟩ := h3 hk
    exact h.push (valid_left hv hk hm (by omega)) (by omega) hb1 hb2 (.inl ⟨h4, h5, h6, rfl, rfl⟩)
  split
  · rename_i h6 h4 h5 _ _ hk
    refine h.push (valid_words hv hk (calledF_ok T k _ ?_)) (by omega) hb1 hb2 (.inl ⟨h4, h5, h6, rfl, rfl⟩)
    exact valid_words0 hv hk
  · rename_i h6 h4 h5 _ _ _
    exact h.push hv (by omega) hb1 hb2 (.inl ⟨h4, h5, h6, rfl, rfl⟩)
theorem round_ok (T : Tp) {s : FS} {P : Nat} (h : RunOK s.l s.lab s.d P) (hd : s.d ≤ 3) (hl2 : s.lab + 1 ≤ 1000) : RunOK (roundF T s).l (s.lab + 1) (roundF T s).d P := by
  unfold roundF
  have hlb : labOf T (blockF T s.k).2 (s.lab + 1) = 0 ∨ labOf T (blockF T s.k).2 (s.lab + 1) = ((s.lab + 1 : Nat) : Int) := by
    unfold labOf; split <;> simp
  exact turn_ok T (s := ⟨s.l, s.lab + 1, s.d, s.k⟩) h hd (Nat.lt_succ_self _) hl2 (valid_lab (blockF_valid T s.k) (by omega)) hlb (blockF_leaf T s.k).1 (blockF_leaf T s.k).2
theorem rounds_ok (T : Tp) {s : FS} {P : Nat} (h : RunOK s.l s.lab s.d P) (hd : s.d ≤ 3) : ∀ n : Nat, s.lab + n ≤ 1000 → RunOK (roundsF T n s).l (s.lab + n) (roundsF T n s).d P
  | 0, _ => h
  | n + 1, hn => by
    obtain ⟨b1, b2, b3⟩ := roundsF_bd T s hd n
    have h1 := rounds_ok T h hd n (by omega)
    rw [← b1] at h1
    rw [roundsF_succ]
    have := round_ok T h1 b3 (by omega)
    rw [b1] at this
    exact this
theorem close_ok {P lab : Nat} : ∀ (d : Nat) (l : List BlkL), d ≤ 3 → RunOK l lab d P → RunOK (l ++ closeL d) lab 0 P
  | 0, l, _, h => by rw [show closeL 0 = [] from rfl, List.append_nil]; exact h
  | d + 1, l, hd, h => by
    rw [show closeL (d + 1) = [endB (d + 1)] ++ closeL d from rfl, ← List.append_assoc]
    refine close_ok d _ (by omega) (h.push ?_ (Nat.le_refl _) (by simp [endB]) (by simp [endB]) (.inr (.inr (.inl ⟨rfl, by omega, rfl, rfl, rfl⟩))))
    obtain rfl | rfl | rfl : d = 0 ∨ d = 1 ∨ d = 2 := by omega
    all_goals rfl
theorem prog_ok (T : Tp) {s : FS} {p : Nat} (h : RunOK s.l s.lab 0 (p - 1)) (hp : p ≤ 2) (hl : s.lab ≤ 500) : RunOK (progF T p s).l (progF T p s).lab 0 p := by
  have h0 : RunOK (beginF p s.l) s.lab 0 p := by
    unfold beginF
    split
    · rename_i e; subst e; exact h
    · refine h.push ?_ (Nat.le_refl _) (by simp [progBk]) (by simp [progBk]) (.inr (.inr (.inr ⟨rfl, rfl, rfl, by show (p : Int) = _; omega, by omega⟩)))
      obtain rfl | rfl : p = 1 ∨ p = 2 := by omega
      all_goals rfl
  have r := range7 T s.k
  unfold progF
  have h1 := rounds_ok T (s := ⟨beginF p s.l, s.lab, 0, (rangeF T s.k 1 7).2⟩) h0 (by simp) (rangeF T s.k 1 7).1.toNat (by simp only; omega)
  obtain ⟨b1, b2, b3⟩ := roundsF_bd T ⟨beginF p s.l, s.lab, 0, (rangeF T s.k 1 7).2⟩ (by simp) (rangeF T s.k 1 7).1.toNat
  simp only at h1 b1 ⊢
  rw [b1]
  exact close_ok _ _ b3 h1
theorem progs_ok (T : Tp) : ∀ p, p ≤ 3 → RunOK (progsF T p).l (progsF T p).lab 0 (p - 1)
  | 0, _ => RunOK.start
  | p + 1, hp => by
    have b := progsF_bd T p
    exact prog_ok T (progs_ok T p (by omega)) (by omega) (by omega)
theorem flow_len (T : Tp) : (flowF T).length ≤ 33 := (progsF_bd T 3).2.1
theorem flow_valid (T : Tp) : ∀ (i : Nat) (b : BlkL), (flowF T)[i]? = some b → validB b = true := fun i b h => (progs_ok T 3 (by omega)).valid b (List.mem_of_getElem? h)
theorem flow_asc (T : Tp) : ∀ (i j : Nat) (a b : BlkL), i < j → (flowF T)[i]? = some a → (flowF T)[j]? = some b → b.label ≠ 0 → a.label < b.label := (progs_ok T 3 (by omega)).asc
theorem flow_labs (T : Tp) : ∀ (i : Nat) (b : BlkL), (flowF T)[i]? = some b → 0 ≤ b.label := fun i b h => ((progs_ok T 3 (by omega)).labs b (List.mem_of_getElem? h)).1
theorem flow_build (T : Tp) : ∃ s, runB (flowF T) (flowF T).length = .ok s ∧ s.op = [] ∧ s.progs.map (·.1) = [0, 1, 2] ∧ buildB (flowF T) = .ok s := by
  obtain ⟨s, hr, hP, hd, _⟩ := (progs_ok T 3 (by omega)).run (flowF T) fun _ _ => rfl
  have hop : s.op = [] := List.length_eq_zero_iff.1 hd
  refine ⟨s, hr, hop, hP, ?_⟩
  unfold buildB
  rw [if_neg (by have := flow_len T; omega), if_neg (by rw [badB_all (flow_valid T)]; omega)]
  have hr' : runB (flowF T) (flowF T).length = .ok s := hr
  rw [hr']
  simp only [hop, if_true]
end Go.Proofs.Yteiogjgmedikhaa
