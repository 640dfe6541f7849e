/-
  cncref06.SameExpr, Same, SameAll and cncref09.SameInts of equal things. No condition.
  cncref09.SameInts, cncref06.SameAll and cncref09.Same of equal things. No condition.
-/
import Derived.Test.YteiogjgmedikhaaMemB09
import Derived.Test.YteiogjgmedikhaaHeld
import Derived.Test.YteiogjgmedikhaaAddP09
namespace Go.Proofs.Yteiogjgmedikhaa
open Go Go.RowKit
set_option linter.unusedVariables false

theorem slim_kid {m : Nat} {op n : Int} {ks : List Ex} (h : slimE (m + 1) (.mk op n ks)) {i : Nat} {x : Ex} (hx : ks[i]? = some x) : slimE m x := h.2 x (List.mem_of_getElem? hx)
theorem slim_len {m : Nat} {op n : Int} {ks : List Ex} (h : slimE (m + 1) (.mk op n ks)) : ks.length ≤ 2 := h.1
/-- Where kid i of a tree lies. -/
theorem ExAt.kid {W : World} {op n : Int} {ks : List Ex} {a : Option Addr} {cap : Nat} (h : ExAt W (.mk op n ks) a cap) :
    ∃ k : Nat → Option Addr × Nat, ∀ i x, ks[i]? = some x → ExAt W x (k i).1 (k i).2 ∧ ∃ b o, a = some ⟨b, o, none⟩ ∧ b < W.heap.size ∧ ∀ j v, (exC x.op x.n (k i).1 x.kids.length (k i).2)[j]? = some v → W.cell? ⟨b, o + i * 3 + j, none⟩ = some v := by
  cases h with
  | mk k hn hc hm hh =>
    refine ⟨k, fun i x hx => ⟨hh i x hx, ?_⟩⟩
    rcases hn with e | ⟨b, o, e, hl, hcell⟩
    · subst e; simp at hx
    · exact ⟨b, o, e, hl, fun j v hv => hcell i x hx j v hv⟩
set_option maxRecDepth 100000 in
set_option maxHeartbeats 1000000 in
theorem same_expr : ∀ (m : Nat) (x : Ex) (a a' : Option Addr) (cap cap' : Nat) (w : World), slimE m x → ExAt w x a cap → ExAt w x a' cap' →
    Calls Try.prog 55 #[.agg #[.int .i64 x.op, .int .i64 x.n, .slice a x.kids.length cap], .agg #[.int .i64 x.op, .int .i64 x.n, .slice a' x.kids.length cap']] w fun e w' => e = .returned (.bool true) ∧ Below w.heap.size w w' := by
  intro m
  induction m with
  | zero => intro x a a' cap cap' w hm; exact hm.elim
  | succ m ih =>
    intro x a a' cap cap' w hs hx hx'
    obtain ⟨op, n, ks⟩ := x
    have IH := Lib.hid ih
    obtain ⟨k1, hk1⟩ := hx.kid
    obtain ⟨k2, hk2⟩ := hx'.kid
    have H1 := Lib.hid hk1
    have H2 := Lib.hid hk2
    have HS := Lib.hid hs
    have hl : ks.length ≤ 2 := hs.1
    clear hs hx hx' hk1 hk2 ih
    show Calls Try.prog 55 #[.agg #[.int .i64 op, .int .i64 n, .slice a ks.length cap], .agg #[.int .i64 op, .int .i64 n, .slice a' ks.length cap']] w _
    have e1 : (op != op) = false := by simp
    have e2 : (n != n) = false := by simp
    have e3 : ((ks.length : Int) != ks.length) = false := by simp
    let L : List (Nat × TypeId × Array Value) := [(w.heap.size, 35, #[.int .i64 op, .int .i64 n, .slice a ks.length cap]), (w.heap.size + 1, 35, #[.int .i64 op, .int .i64 n, .slice a' ks.length cap'])]
    have K0 := Lib.hid (show Holds w.heap.size w L ((w.alloc (.cells #[.int .i64 op, .int .i64 n, .slice a ks.length cap] 35)).alloc (.cells #[.int .i64 op, .int .i64 n, .slice a' ks.length cap'] 35)) from
      ⟨fun y hy => by
        simp only [L, List.mem_cons, List.not_mem_nil, or_false] at hy
        rcases hy with rfl | rfl
        · exact (Blk.new w _ _).alloc _
        · have := Blk.new (w.alloc (.cells #[.int .i64 op, .int .i64 n, .slice a ks.length cap] 35)) 35 #[.int .i64 op, .int .i64 n, .slice a' ks.length cap']
          simpa using this, ((Below.refl _ _).alloc (Nat.le_refl _) _).alloc (by simp) _, by simp; omega⟩)
    have LA : ∀ W, Holds w.heap.size w L W → Blk W w.heap.size 35 #[.int .i64 op, .int .i64 n, .slice a ks.length cap] := fun W h => h.blk (_, _, _) (List.mem_cons_self ..)
    have LB : ∀ W, Holds w.heap.size w L W → Blk W (w.heap.size + 1) 35 #[.int .i64 op, .int .i64 n, .slice a' ks.length cap'] := fun W h => h.blk (_, _, _) (List.mem_cons_of_mem _ (List.mem_cons_self ..))
    have LA := Lib.hid LA
    have LB := Lib.hid LB
    clear_value L
    go_enter Try.func55, Try.ntmps55
    go_wp2_with fail
    go_loopw [5] (fun s1 wr => ∃ i : Nat, i ≤ ks.length ∧ s1 = .int .i64 i ∧ Holds w.heap.size w L wr) (fun s1 _ => ks.length - (intOf s1).toNat)
    case atStart => exact ⟨0, by omega, rfl, K0.out⟩
    case round =>
      obtain ⟨i, hi, rfl, hk⟩ := hrel
      have HK := Lib.hid hk
      have i0 : (0 : Int) ≤ (i : Int) := by omega
      have q2 := (LA.out _ hk).cell' (v := .slice a ks.length cap) 2 rfl
      clear hk
      by_cases hlt : i < ks.length
      · have d1 : decide (i < ks.length) = true := by simpa using hlt
        have i1 : (i : Int) < (ks.length : Int) := by omega
        obtain ⟨x, hx⟩ : ∃ x, ks[i]? = some x := ⟨ks[i], List.getElem?_eq_getElem hlt⟩
        obtain ⟨hE1, b1, o1, rfl, hb1, hc1⟩ := H1.out i x hx
        obtain ⟨hE2, b2, o2, rfl, hb2, hc2⟩ := H2.out i x hx
        have hsx := slim_kid HS.out hx
        obtain ⟨xo, xn, xk⟩ := x
        let S : World → Prop := Holds w.heap.size w L
        have hs : S wr.drew := HK.out.drew
        have inst : Nonempty (At S) := ⟨⟨_, hs⟩⟩
        have y2 : ∀ p : At S, p.w.cell? ⟨w.heap.size, 2, none⟩ = some (.slice (some ⟨b1, o1, none⟩) ks.length cap) := fun p => (LA.out _ p.ok).cell' 2 rfl
        have z2 : ∀ p : At S, p.w.cell? ⟨w.heap.size + 1, 2, none⟩ = some (.slice (some ⟨b2, o2, none⟩) ks.length cap') := fun p => (LB.out _ p.ok).cell' 2 rfl
        have c1 : ∀ (p : At S) j v, (exC xo xn (k1 i).1 xk.length (k1 i).2)[j]? = some v → p.w.cell? ⟨b1, o1 + i * 3 + j, none⟩ = some v := fun p j v h => (p.ok.bel.cell (p := ⟨b1, o1 + i * 3 + j, none⟩) hb1).trans (hc1 j v h)
        have c2 : ∀ (p : At S) j v, (exC xo xn (k2 i).1 xk.length (k2 i).2)[j]? = some v → p.w.cell? ⟨b2, o2 + i * 3 + j, none⟩ = some v := fun p j v h => (p.ok.bel.cell (p := ⟨b2, o2 + i * 3 + j, none⟩) hb2).trans (hc2 j v h)
        have p0 := fun p => c1 p 0 _ rfl
        have p1 := fun p => c1 p 1 _ rfl
        have p2 := fun p => c1 p 2 _ rfl
        have r0 := fun p => c2 p 0 _ rfl
        have r1 := fun p => c2 p 1 _ rfl
        have r2 := fun p => c2 p 2 _ rfl
        simp only [Nat.add_zero] at p0 r0
        have kr := (fun p : At S => (IH.out (.mk xo xn xk) (k1 i).1 (k2 i).1 (k1 i).2 (k2 i).2 p.w hsx (hE1.under p.ok.bel) (hE2.under p.ok.bel)))
        simp only [Ex.op, Ex.n, Ex.kids] at kr
        have KR := Lib.hid kr
        clear kr
        have hA : ∀ (p : At S) w', Below p.w.heap.size p.w w' → S w' := fun p w' h => p.ok.below h
        have HB : ∀ p : At S, Holds w.heap.size w L p.w := fun p => p.ok
        have HB := Lib.hid HB
        clear hc1 hc2 c1 c2 hE1 hE2 hsx hx
        clear_value S
        go_upto_region 6 with fail
        refine wp_region_at S (by kernel_rfl) (by kernel_rfl) hs ?_
        repeat go_big_quiet_step (with_reducible exact Calls.at_of (KR.out _) fun e w' h => ⟨h.1, hA _ _ h.2⟩)
        refine wpQuiet_nil ?_
        rintro _ ⟨p, rfl⟩
        have hp := HB.out p
        generalize p.w = W1 at *
        go_wp2_with fail
        go_roundw
        case rel => exact ⟨i + 1, by omega, by go_num, hp⟩
        case measure => simp [intOf]; omega
      · obtain rfl : i = ks.length := by omega
        have d1 : decide (ks.length < ks.length) = false := by simp
        go_wp2_with fail
        go_ret
        exact ⟨rfl, HK.out.bel⟩

set_option maxRecDepth 100000 in
set_option maxHeartbeats 1000000 in
theorem same_blk (b : BlkL) (p q : Place) (w : World) (hs : slimB b) (hp : BlkAt w b p) (hq : BlkAt w b q) :
    Calls Try.prog 41 #[.agg (blkC b p).toArray, .agg (blkC b q).toArray] w fun e w' => e = .returned (.bool true) ∧ Below w.heap.size w w' := by
  obtain ⟨kd, lab, sk, ws, lf, x, n⟩ := b
  obtain ⟨pw, pc, pk, pl, px⟩ := p
  obtain ⟨qw, qc, qk, ql, qx⟩ := q
  have HS := Lib.hid hs
  have HP := Lib.hid hp
  have HQ := Lib.hid hq
  have hl : ws.length ≤ 24 := hs.words
  obtain ⟨lo, ln, lk⟩ := lf
  obtain ⟨xo, xn, xk⟩ := x
  clear hs hp hq
  show Calls Try.prog 41 #[.agg #[.int .i64 kd, .int .i64 lab, .bool sk, .slice pw ws.length pc, .int .i64 lo, .int .i64 ln, .slice pl.a lk.length pl.cap, .int .i64 xo, .int .i64 xn, .slice px.a xk.length px.cap, .int .i64 n], .agg #[.int .i64 kd, .int .i64 lab, .bool sk, .slice qw ws.length qc, .int .i64 lo, .int .i64 ln, .slice ql.a lk.length ql.cap, .int .i64 xo, .int .i64 xn, .slice qx.a xk.length qx.cap, .int .i64 n]] w _
  have e1 : (kd != kd) = false := by simp
  have e2 : (lab != lab) = false := by simp
  have e3 : (sk != sk) = false := by simp
  have e4 : (n != n) = false := by simp
  have e5 : ((ws.length : Int) != ws.length) = false := by simp
  let L : List (Nat × TypeId × Array Value) := [(w.heap.size, 37, #[.int .i64 kd, .int .i64 lab, .bool sk, .slice pw ws.length pc, .int .i64 lo, .int .i64 ln, .slice pl.a lk.length pl.cap, .int .i64 xo, .int .i64 xn, .slice px.a xk.length px.cap, .int .i64 n]), (w.heap.size + 1, 37, #[.int .i64 kd, .int .i64 lab, .bool sk, .slice qw ws.length qc, .int .i64 lo, .int .i64 ln, .slice ql.a lk.length ql.cap, .int .i64 xo, .int .i64 xn, .slice qx.a xk.length qx.cap, .int .i64 n])]
  have K0 := Lib.hid (show Holds w.heap.size w L ((w.alloc (.cells #[.int .i64 kd, .int .i64 lab, .bool sk, .slice pw ws.length pc, .int .i64 lo, .int .i64 ln, .slice pl.a lk.length pl.cap, .int .i64 xo, .int .i64 xn, .slice px.a xk.length px.cap, .int .i64 n] 37)).alloc (.cells #[.int .i64 kd, .int .i64 lab, .bool sk, .slice qw ws.length qc, .int .i64 lo, .int .i64 ln, .slice ql.a lk.length ql.cap, .int .i64 xo, .int .i64 xn, .slice qx.a xk.length qx.cap, .int .i64 n] 37)) from
    ⟨fun y hy => by
      simp only [L, List.mem_cons, List.not_mem_nil, or_false] at hy
      rcases hy with rfl | rfl
      · exact (Blk.new w _ _).alloc _
      · have := Blk.new (w.alloc (.cells #[.int .i64 kd, .int .i64 lab, .bool sk, .slice pw ws.length pc, .int .i64 lo, .int .i64 ln, .slice pl.a lk.length pl.cap, .int .i64 xo, .int .i64 xn, .slice px.a xk.length px.cap, .int .i64 n] 37)) 37 #[.int .i64 kd, .int .i64 lab, .bool sk, .slice qw ws.length qc, .int .i64 lo, .int .i64 ln, .slice ql.a lk.length ql.cap, .int .i64 xo, .int .i64 xn, .slice qx.a xk.length qx.cap, .int .i64 n]
        simpa using this, ((Below.refl _ _).alloc (Nat.le_refl _) _).alloc (by simp) _, by simp; omega⟩)
  have LA : ∀ W, Holds w.heap.size w L W → Blk W w.heap.size 37 #[.int .i64 kd, .int .i64 lab, .bool sk, .slice pw ws.length pc, .int .i64 lo, .int .i64 ln, .slice pl.a lk.length pl.cap, .int .i64 xo, .int .i64 xn, .slice px.a xk.length px.cap, .int .i64 n] := fun W h => h.blk (_, _, _) (List.mem_cons_self ..)
  have LB : ∀ W, Holds w.heap.size w L W → Blk W (w.heap.size + 1) 37 #[.int .i64 kd, .int .i64 lab, .bool sk, .slice qw ws.length qc, .int .i64 lo, .int .i64 ln, .slice ql.a lk.length ql.cap, .int .i64 xo, .int .i64 xn, .slice qx.a xk.length qx.cap, .int .i64 n] := fun W h => h.blk (_, _, _) (List.mem_cons_of_mem _ (List.mem_cons_self ..))
  have LA := Lib.hid LA
  have LB := Lib.hid LB
  have kl := fun W (hW : Below w.heap.size w W) => same_expr 16 _ pl.a ql.a pl.cap ql.cap W HS.out.left (HP.out.left.under hW) (HQ.out.left.under hW)
  have kx := fun W (hW : Below w.heap.size w W) => same_expr 16 _ px.a qx.a px.cap qx.cap W HS.out.x (HP.out.x.under hW) (HQ.out.x.under hW)
  simp only [Ex.op, Ex.n, Ex.kids] at kl kx
  have KL := Lib.hid kl
  have KX := Lib.hid kx
  clear kl kx
  clear_value L
  go_enter Try.func41, Try.ntmps41
  go_wp2_with fail
  refine (KL.out _ K0.out.bel).mono ?_
  rintro e w1 ⟨rfl, b1⟩
  have K1 := Lib.hid (K0.out.below b1)
  clear b1
  have fa7 := (LA.out _ K1.out).cell 7
  have fa8 := (LA.out _ K1.out).cell 8
  have fa9 := (LA.out _ K1.out).cell 9
  have fb7 := (LB.out _ K1.out).cell 7
  have fb8 := (LB.out _ K1.out).cell 8
  have fb9 := (LB.out _ K1.out).cell 9
  go_wp2_with fail
  refine (KX.out _ K1.out.bel).mono ?_
  rintro e w2 ⟨rfl, b2⟩
  have K2 := Lib.hid (K1.out.below b2)
  clear b2 fa7 fb7 fa8 fb8 fa9 fb9 K1 K0
  go_wp2_with fail
  go_loopw [5] (fun s1 wr => ∃ i : Nat, i ≤ ws.length ∧ s1 = .int .i64 i ∧ Holds w.heap.size w L wr) (fun s1 _ => ws.length - (intOf s1).toNat)
  case atStart => exact ⟨0, by omega, rfl, K2.out⟩
  case round =>
    obtain ⟨i, hi, rfl, hk⟩ := hrel
    have HK := Lib.hid hk
    have i0 : (0 : Int) ≤ (i : Int) := by omega
    have q2 := (LA.out _ hk).cell' (v := .slice pw ws.length pc) 3 rfl
    clear hk
    by_cases hlt : i < ws.length
    · have d1 : decide (i < ws.length) = true := by simpa using hlt
      have i1 : (i : Int) < (ws.length : Int) := by omega
      obtain ⟨x, hx⟩ : ∃ x, ws[i]? = some x := ⟨ws[i], List.getElem?_eq_getElem hlt⟩
      obtain ⟨b1, o1, e1', hb1, hc1⟩ := HP.out.words.num i x hx
      obtain ⟨b2, o2, e2', hb2, hc2⟩ := HQ.out.words.num i x hx
      have hE1 := HP.out.words.tree i x hx
      have hE2 := HQ.out.words.tree i x hx
      have hsx := HS.out.each i x hx
      dsimp only at e1' e2' hE1 hE2 hc1 hc2
      subst e1' e2'
      obtain ⟨le, yo, yn, yk⟩ := x
      let S : World → Prop := Holds w.heap.size w L
      have hs : S wr.drew := HK.out.drew
      have inst : Nonempty (At S) := ⟨⟨_, hs⟩⟩
      have y2 : ∀ p : At S, p.w.cell? ⟨w.heap.size, 3, none⟩ = some (.slice (some ⟨b1, o1, none⟩) ws.length pc) := fun p => (LA.out _ p.ok).cell' 3 rfl
      have z2 : ∀ p : At S, p.w.cell? ⟨w.heap.size + 1, 3, none⟩ = some (.slice (some ⟨b2, o2, none⟩) ws.length qc) := fun p => (LB.out _ p.ok).cell' 3 rfl
      have c1 : ∀ (p : At S) j v, (wordC ⟨le, .mk yo yn yk⟩ (pk i))[j]? = some v → p.w.cell? ⟨b1, o1 + i * 4 + j, none⟩ = some v := fun p j v h => (p.ok.bel.cell (p := ⟨b1, o1 + i * 4 + j, none⟩) hb1).trans (hc1 j v h)
      have c2 : ∀ (p : At S) j v, (wordC ⟨le, .mk yo yn yk⟩ (qk i))[j]? = some v → p.w.cell? ⟨b2, o2 + i * 4 + j, none⟩ = some v := fun p j v h => (p.ok.bel.cell (p := ⟨b2, o2 + i * 4 + j, none⟩) hb2).trans (hc2 j v h)
      have p0 := fun p => c1 p 0 _ rfl
      have p1 := fun p => c1 p 1 _ rfl
      have p2 := fun p => c1 p 2 _ rfl
      have p3 := fun p => c1 p 3 _ rfl
      have r0 := fun p => c2 p 0 _ rfl
      have r1 := fun p => c2 p 1 _ rfl
      have r2 := fun p => c2 p 2 _ rfl
      have r3 := fun p => c2 p 3 _ rfl
      simp only [Nat.add_zero, Ex.op, Ex.n, Ex.kids] at p0 r0 p1 r1 p2 r2 p3 r3
      have kr := (fun p : At S => (same_expr 16 (.mk yo yn yk) (pk i).a (qk i).a (pk i).cap (qk i).cap p.w hsx (hE1.under p.ok.bel) (hE2.under p.ok.bel)))
      simp only [Ex.op, Ex.n, Ex.kids] at kr
      have KR := Lib.hid kr
      have el : (le != le) = false := by simp
      have hA : ∀ (p : At S) w', Below p.w.heap.size p.w w' → S w' := fun p w' h => p.ok.below h
      have HB : ∀ p : At S, Holds w.heap.size w L p.w := fun p => p.ok
      have HB := Lib.hid HB
      clear hc1 hc2 c1 c2 hE1 hE2 hsx hx kr
      clear_value S
      go_upto_region 6 with fail
      refine wp_region_at S (by kernel_rfl) (by kernel_rfl) hs ?_
      repeat go_big_quiet_step (with_reducible exact Calls.at_of (KR.out _) fun e w' h => ⟨h.1, hA _ _ h.2⟩)
      refine wpQuiet_nil ?_
      rintro _ ⟨p, rfl⟩
      have hp := HB.out p
      generalize p.w = W1 at *
      go_wp2_with fail
      go_roundw
      case rel => exact ⟨i + 1, by omega, by go_num, hp⟩
      case measure => simp [intOf]; omega
    · obtain rfl : i = ws.length := by omega
      have d1 : decide (ws.length < ws.length) = false := by simp
      go_wp2_with fail
      go_ret
      exact ⟨rfl, HK.out.bel⟩
end Go.Proofs.Yteiogjgmedikhaa

namespace Go.Proofs.Yteiogjgmedikhaa
open Go Go.RowKit
set_option linter.unusedVariables false

set_option maxRecDepth 100000 in
set_option maxHeartbeats 1000000 in
theorem same_ints (M : List Int) (a a' : Option Addr) (cap cap' : Nat) (w : World) (h : TabAt w a 1 M.length (intC M)) (h' : TabAt w a' 1 M.length (intC M)) (hl : M.length ≤ 1000000) :
    Calls Try.prog 25 #[.slice a M.length cap, .slice a' M.length cap'] w fun e w' => e = .returned (.bool true) ∧ Below w.heap.size w w' := by
  have H := Lib.hid h
  have H' := Lib.hid h'
  clear h h'
  have e3 : ((M.length : Int) != M.length) = false := by simp
  have b0 := Below.refl w.heap.size w
  go_enter Try.func25, Try.ntmps25
  go_wp2_with fail
  go_loopw [5] (fun s1 wr => ∃ i : Nat, i ≤ M.length ∧ s1 = .int .i64 i ∧ Below w.heap.size w wr) (fun s1 _ => M.length - (intOf s1).toNat)
  case atStart => exact ⟨0, by omega, rfl, b0⟩
  case round =>
    obtain ⟨i, hi, rfl, hk⟩ := hrel
    have HK := Lib.hid hk
    have i0 : (0 : Int) ≤ (i : Int) := by omega
    clear hk
    by_cases hlt : i < M.length
    · have d1 : decide (i < M.length) = true := by simpa using hlt
      have i1 : (i : Int) < (M.length : Int) := by omega
      obtain ⟨_, b1, o1, rfl, hb1, hc1⟩ := H.out i hlt
      obtain ⟨_, b2, o2, rfl, hb2, hc2⟩ := H'.out i hlt
      have c1 := (hc1 0 (by decide))
      have c2 := (hc2 0 (by decide))
      simp only [intC, Nat.mul_one, Nat.add_zero] at c1 c2
      generalize M.getD i 0 = x at c1 c2
      let S : World → Prop := Below w.heap.size w
      have hs : S wr.drew := HK.out.drew
      have inst : Nonempty (At S) := ⟨⟨_, hs⟩⟩
      have y1 : ∀ p : At S, p.w.cell? ⟨b1, o1 + i, none⟩ = some (.int .i64 x) := fun p => (p.ok.cell (p := ⟨b1, o1 + i, none⟩) hb1).trans c1
      have y2 : ∀ p : At S, p.w.cell? ⟨b2, o2 + i, none⟩ = some (.int .i64 x) := fun p => (p.ok.cell (p := ⟨b2, o2 + i, none⟩) hb2).trans c2
      have hB : ∀ p : At S, Below w.heap.size w p.w := fun p => p.ok
      have HB := Lib.hid hB
      clear hc1 hc2 c1 c2 hB
      clear_value S
      go_upto_region 6 with fail
      refine wp_region_at S (by kernel_rfl) (by kernel_rfl) hs ?_
      repeat go_big_quiet_step (fail)
      refine wpQuiet_nil ?_
      rintro _ ⟨p, rfl⟩
      have hp := HB.out p
      generalize p.w = W1 at *
      go_wp2_with fail
      go_roundw
      case rel => exact ⟨i + 1, by omega, by go_num, hp⟩
      case measure => simp [intOf]; omega
    · obtain rfl : i = M.length := by omega
      have d1 : decide (M.length < M.length) = false := by simp
      go_wp2_with fail
      go_ret
      exact ⟨rfl, HK.out⟩
set_option maxRecDepth 100000 in
set_option maxHeartbeats 1000000 in
theorem same_all (bs : List BlkL) (a a' : Option Addr) (cap cap' : Nat) (pl ql : Nat → Place) (w : World) (hs : ∀ (i : Nat) (b : BlkL), bs[i]? = some b → slimB b) (h : BlksAt w bs a cap pl) (h' : BlksAt w bs a' cap' ql) (hl : bs.length ≤ 1000000) :
    Calls Try.prog 22 #[.slice a bs.length cap, .slice a' bs.length cap'] w fun e w' => e = .returned (.bool true) ∧ Below w.heap.size w w' := by
  have H := Lib.hid h
  have H' := Lib.hid h'
  have HS := Lib.hid hs
  clear h h' hs
  have e3 : ((bs.length : Int) != bs.length) = false := by simp
  have b0 := Below.refl w.heap.size w
  go_enter Try.func22, Try.ntmps22
  go_wp2_with fail
  go_loopw [5] (fun s1 wr => ∃ i : Nat, i ≤ bs.length ∧ s1 = .int .i64 i ∧ Below w.heap.size w wr) (fun s1 _ => bs.length - (intOf s1).toNat)
  case atStart => exact ⟨0, by omega, rfl, b0⟩
  case round =>
    obtain ⟨i, hi, rfl, hk⟩ := hrel
    have HK := Lib.hid hk
    have i0 : (0 : Int) ≤ (i : Int) := by omega
    clear hk
    by_cases hlt : i < bs.length
    · have d1 : decide (i < bs.length) = true := by simpa using hlt
      have i1 : (i : Int) < (bs.length : Int) := by omega
      obtain ⟨b, hb⟩ : ∃ b, bs[i]? = some b := ⟨bs[i], List.getElem?_eq_getElem hlt⟩
      obtain ⟨_, b1, o1, rfl, hb1, _⟩ := H.out.tab i hlt
      obtain ⟨_, b2, o2, rfl, hb2, _⟩ := H'.out.tab i hlt
      have c1 := H.out.tab.range hlt
      have c2 := H'.out.tab.range hlt
      rw [blksC_at hb] at c1 c2
      have hsb := HS.out i b hb
      have hB1 := H.out.blk i b hb
      have hB2 := H'.out.blk i b hb
      let S : World → Prop := Below w.heap.size w
      have hs : S wr.drew := HK.out.drew
      have inst : Nonempty (At S) := ⟨⟨_, hs⟩⟩
      have hl1 : ∀ p : At S, (Instr.loadAt 37 (.pointer (some ⟨b1, o1 + i * 11, none⟩))).run Try.prog p.w = .ok (.agg (blkC b (pl i)).toArray) p.w := fun p =>
        run_loadAt_mid _ b1 (o1 + i * 11) 37 (blkC b (pl i)) _ (fun j v hv => (p.ok.cell (p := ⟨b1, o1 + i * 11 + j, none⟩) hb1).trans (c1 j v hv)) Try.underlying37 rfl (by kernel_rfl)
      have hl2 : ∀ p : At S, (Instr.loadAt 37 (.pointer (some ⟨b2, o2 + i * 11, none⟩))).run Try.prog p.w = .ok (.agg (blkC b (ql i)).toArray) p.w := fun p =>
        run_loadAt_mid _ b2 (o2 + i * 11) 37 (blkC b (ql i)) _ (fun j v hv => (p.ok.cell (p := ⟨b2, o2 + i * 11 + j, none⟩) hb2).trans (c2 j v hv)) Try.underlying37 rfl (by kernel_rfl)
      have HL1 := Lib.hid hl1
      have HL2 := Lib.hid hl2
      have KR := Lib.hid (fun p : At S => same_blk b (pl i) (ql i) p.w hsb (hB1.under p.ok) (hB2.under p.ok))
      have hA : ∀ (p : At S) w', Below p.w.heap.size p.w w' → S w' := fun p w' h => p.ok.trans (h.mono p.ok.size)
      have hB : ∀ p : At S, Below w.heap.size w p.w := fun p => p.ok
      have HB := Lib.hid hB
      clear hl1 hl2 c1 c2 hB hsb hB1 hB2
      clear_value S
      generalize hy1 : (blkC b (pl i)).toArray = y1 at *
      generalize hy2 : (blkC b (ql i)).toArray = y2 at *
      clear hy1 hy2
      go_upto_region 6 with fail
      refine wp_region_at S (by kernel_rfl) (by kernel_rfl) hs ?_
      repeat (first
        | (go_big_quiet_want; (first
            | refine quiet_load 37 (.tmp 19) rfl _ _ rfl HL1.out ?_
            | refine quiet_load 37 (.tmp 23) rfl _ _ rfl HL2.out ?_); simp only [Act.put, List.setIfInBounds_toArray, List.set_cons_zero, List.set_cons_succ]; go_big_quiet_on)
        | go_big_quiet_step (with_reducible exact Calls.at_of (KR.out _) fun e w' h => ⟨h.1, hA _ _ h.2⟩))
      refine wpQuiet_nil ?_
      rintro _ ⟨p, rfl⟩
      have hp := HB.out p
      generalize p.w = W1 at *
      go_wp2_with fail
      go_roundw
      case rel => exact ⟨i + 1, by omega, by go_num, hp⟩
      case measure => simp [intOf]; omega
    · obtain rfl : i = bs.length := by omega
      have d1 : decide (bs.length < bs.length) = false := by simp
      go_wp2_with fail
      go_ret
      exact ⟨rfl, HK.out⟩

/-- A library in memory, to be read. -/
structure LibAt (W : World) (bs : List BlkL) (P : List (Int × Nat)) (n : Nat) (M : List Int) (ab : Option Addr) (cb : Nat) (pl : Nat → Place) (ap : Option Addr) (cp : Nat) (am : Option Addr) (cm : Nat) : Prop where
  blks : BlksAt W bs ab cb pl
  progs : TabAt W ap 3 P.length (progC P n)
  mate : TabAt W am 1 M.length (intC M)
theorem LibAt.under {W W' : World} {bs : List BlkL} {P : List (Int × Nat)} {n : Nat} {M : List Int} {ab : Option Addr} {cb : Nat} {pl : Nat → Place} {ap : Option Addr} {cp : Nat} {am : Option Addr} {cm : Nat}
    (h : LibAt W bs P n M ab cb pl ap cp am cm) (hb : Below W.heap.size W W') : LibAt W' bs P n M ab cb pl ap cp am cm := ⟨h.blks.under hb, h.progs.below hb, h.mate.below hb⟩
set_option maxRecDepth 100000 in
set_option maxHeartbeats 1000000 in
theorem same_lib (bs : List BlkL) (P : List (Int × Nat)) (n : Nat) (M : List Int) (ab ab' ap ap' am am' : Option Addr) (cb cb' cp cp' cm cm' : Nat) (pl ql : Nat → Place) (w : World) (hs : ∀ (i : Nat) (b : BlkL), bs[i]? = some b → slimB b)
    (h : LibAt w bs P n M ab cb pl ap cp am cm) (h' : LibAt w bs P n M ab' cb' ql ap' cp' am' cm') (hl1 : bs.length ≤ 1000000) (hl2 : P.length ≤ 1000000) (hl3 : M.length ≤ 1000000) :
    Calls Try.prog 24 #[.agg #[.slice ab bs.length cb, .slice ap P.length cp, .slice am M.length cm], .agg #[.slice ab' bs.length cb', .slice ap' P.length cp', .slice am' M.length cm']] w fun e w' => e = .returned (.bool true) ∧ Below w.heap.size w w' := by
  have H := Lib.hid h
  have H' := Lib.hid h'
  have e1 : ((P.length : Int) != P.length) = false := by simp
  let L : List (Nat × TypeId × Array Value) := [(w.heap.size, 42, #[.slice ab bs.length cb, .slice ap P.length cp, .slice am M.length cm]), (w.heap.size + 1, 42, #[.slice ab' bs.length cb', .slice ap' P.length cp', .slice am' M.length cm'])]
  have K0 := Lib.hid (show Holds w.heap.size w L ((w.alloc (.cells #[.slice ab bs.length cb, .slice ap P.length cp, .slice am M.length cm] 42)).alloc (.cells #[.slice ab' bs.length cb', .slice ap' P.length cp', .slice am' M.length cm'] 42)) from
    ⟨fun y hy => by
      simp only [L, List.mem_cons, List.not_mem_nil, or_false] at hy
      rcases hy with rfl | rfl
      · exact (Blk.new w _ _).alloc _
      · have := Blk.new (w.alloc (.cells #[.slice ab bs.length cb, .slice ap P.length cp, .slice am M.length cm] 42)) 42 #[.slice ab' bs.length cb', .slice ap' P.length cp', .slice am' M.length cm']
        simpa using this, ((Below.refl _ _).alloc (Nat.le_refl _) _).alloc (by simp) _, by simp; omega⟩)
  have LA : ∀ W, Holds w.heap.size w L W → Blk W w.heap.size 42 #[.slice ab bs.length cb, .slice ap P.length cp, .slice am M.length cm] := fun W h => h.blk (_, _, _) (List.mem_cons_self ..)
  have LB : ∀ W, Holds w.heap.size w L W → Blk W (w.heap.size + 1) 42 #[.slice ab' bs.length cb', .slice ap' P.length cp', .slice am' M.length cm'] := fun W h => h.blk (_, _, _) (List.mem_cons_of_mem _ (List.mem_cons_self ..))
  have LA := Lib.hid LA
  have LB := Lib.hid LB
  have KI := Lib.hid fun W (hW : Below w.heap.size w W) => same_ints M am am' cm cm' W (h.mate.below hW) (h'.mate.below hW) hl3
  have KB := Lib.hid fun W (hW : Below w.heap.size w W) => same_all bs ab ab' cb cb' pl ql W hs (h.blks.under hW) (h'.blks.under hW) hl1
  clear h h' hs hl1 hl3
  clear_value L
  go_enter Try.func24, Try.ntmps24
  go_wp2_with fail
  refine (KI.out _ K0.out.bel).mono ?_
  rintro e w1 ⟨rfl, b1⟩
  have K1 := Lib.hid (K0.out.below b1)
  clear b1
  have fa0 := (LA.out _ K1.out).cell 0
  have fb0 := (LB.out _ K1.out).cell 0
  go_wp2_with fail
  refine (KB.out _ K1.out.bel).mono ?_
  rintro e w2 ⟨rfl, b2⟩
  have K2 := Lib.hid (K1.out.below b2)
  clear b2 fa0 fb0 K1 K0
  go_wp2_with fail
  go_loopw [5] (fun s1 wr => ∃ i : Nat, i ≤ P.length ∧ s1 = .int .i64 i ∧ Holds w.heap.size w L wr) (fun s1 _ => P.length - (intOf s1).toNat)
  case atStart => exact ⟨0, by omega, rfl, K2.out⟩
  case round =>
    obtain ⟨i, hi, rfl, hk⟩ := hrel
    have HK := Lib.hid hk
    have i0 : (0 : Int) ≤ (i : Int) := by omega
    have q2 := (LA.out _ hk).cell' (v := .slice ap P.length cp) 1 rfl
    clear hk
    by_cases hlt : i < P.length
    · have d1 : decide (i < P.length) = true := by simpa using hlt
      have i1 : (i : Int) < (P.length : Int) := by omega
      obtain ⟨_, b1, o1, rfl, hb1, hc1⟩ := H.out.progs i hlt
      obtain ⟨_, b2, o2, rfl, hb2, hc2⟩ := H'.out.progs i hlt
      simp only [progC] at hc1 hc2
      generalize (P.getD i (0, 0)).1 = x1 at hc1 hc2
      generalize (P.getD i (0, 0)).2 = x2 at hc1 hc2
      generalize (if i + 1 < P.length then (P.getD (i + 1) (0, 0)).2 else n) = x3 at hc1 hc2
      let S : World → Prop := Holds w.heap.size w L
      have hs : S wr.drew := HK.out.drew
      have inst : Nonempty (At S) := ⟨⟨_, hs⟩⟩
      have y2 : ∀ p : At S, p.w.cell? ⟨w.heap.size, 1, none⟩ = some (.slice (some ⟨b1, o1, none⟩) P.length cp) := fun p => (LA.out _ p.ok).cell' 1 rfl
      have z2 : ∀ p : At S, p.w.cell? ⟨w.heap.size + 1, 1, none⟩ = some (.slice (some ⟨b2, o2, none⟩) P.length cp') := fun p => (LB.out _ p.ok).cell' 1 rfl
      have c1 : ∀ (p : At S) j, j < 3 → p.w.cell? ⟨b1, o1 + i * 3 + j, none⟩ = _ := fun p j h => (p.ok.bel.cell (p := ⟨b1, o1 + i * 3 + j, none⟩) hb1).trans (hc1 j h)
      have c2 : ∀ (p : At S) j, j < 3 → p.w.cell? ⟨b2, o2 + i * 3 + j, none⟩ = _ := fun p j h => (p.ok.bel.cell (p := ⟨b2, o2 + i * 3 + j, none⟩) hb2).trans (hc2 j h)
      have p0 := fun p => c1 p 0 (by decide)
      have p1 := fun p => c1 p 1 (by decide)
      have p2 := fun p => c1 p 2 (by decide)
      have r0 := fun p => c2 p 0 (by decide)
      have r1 := fun p => c2 p 1 (by decide)
      have r2 := fun p => c2 p 2 (by decide)
      have HB : ∀ p : At S, Holds w.heap.size w L p.w := fun p => p.ok
      have HB := Lib.hid HB
      simp only [Nat.add_zero, List.getElem?_cons_zero, List.getElem?_cons_succ] at p0 p1 p2 r0 r1 r2
      clear hc1 hc2 c1 c2
      clear_value S
      go_upto_region 6 with fail
      refine wp_region_at S (by kernel_rfl) (by kernel_rfl) hs ?_
      repeat go_big_quiet_step (fail)
      refine wpQuiet_nil ?_
      rintro _ ⟨p, rfl⟩
      have hp := HB.out p
      generalize p.w = W1 at *
      go_wp2_with fail
      go_roundw
      case rel => exact ⟨i + 1, by omega, by go_num, hp⟩
      case measure => simp [intOf]; omega
    · obtain rfl : i = P.length := by omega
      have d1 : decide (P.length < P.length) = false := by simp
      go_wp2_with fail
      go_ret
      exact ⟨rfl, HK.out.bel⟩
end Go.Proofs.Yteiogjgmedikhaa
