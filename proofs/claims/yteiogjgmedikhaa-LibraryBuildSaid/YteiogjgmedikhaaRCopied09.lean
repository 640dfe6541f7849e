/-
  cncref09.copied.
-/
import Derived.Test.YteiogjgmedikhaaLit09
import Derived.Test.YteiogjgmedikhaaCopied09
namespace Go.Proofs.Yteiogjgmedikhaa
open Go Go.RowKit
set_option linter.unusedVariables false

/-- The head of a round of copied's loop. -/
structure RCopyAt (w : World) (op n : Int) (ks : List Ex) (a : Option Addr) (cap : Nat) (v : Value) (i : Nat) (k : Nat → Option Addr × Nat) (wr : World) : Prop where
  blk : Blk wr w.heap.size 35 #[.int .i64 op, .int .i64 n, .slice a ks.length cap]
  res : Blk wr (w.heap.size + 1) 35 #[.int .i64 0, .int .i64 0, .slice none 0 0]
  y : Blk wr (w.heap.size + 1 + 1) 35 #[.int .i64 op, .int .i64 n, v]
  own : wr.ownsRow (w.heap.size + 3) 35 3 v i (flat (kidC ks k) i)
  bel : Below w.heap.size w wr
  new : ∀ (j : Nat) (x : Ex), ks[j]? = some x → j < i → ExP (fun g => w.heap.size + 2 < g ∧ v.ownBlock ≠ some g) wr x (k j).1 (k j).2
theorem RCopyAt.step {w wr w3 w4 : World} {op n : Int} {ks : List Ex} {a : Option Addr} {cap : Nat} {v : Value} {i : Nat} {k : Nat → Option Addr × Nat} (h : RCopyAt w op n ks a cap v i k wr) {x : Ex} (hx : ks[i]? = some x) (hb : Below wr.heap.size wr w3)
    {a3 : Option Addr} {c3 : Nat} (hin : ExIn wr.heap.size w3 x a3 c3) {g c : Nat} (hp : Pushed w3 (w.heap.size + 3) 35 3 v i (kidC ks k) (exC x.op x.n a3 x.kids.length c3) g c w4) :
    RCopyAt w op n ks a cap (.slice (some ⟨g, 0, none⟩) (i + 1) c) (i + 1) (fun j => if j = i then (a3, c3) else k j) (w4.setCell ⟨w.heap.size + 1 + 1, 2, none⟩ (.slice (some ⟨g, 0, none⟩) (i + 1) c)) := by
  have hi : i < ks.length := (List.getElem?_eq_some_iff.1 hx).1
  have hs := hb.size
  have hy := h.y.lt
  have hrow : ∀ q, v.ownBlock = some q → w.heap.size + 3 ≤ q ∧ q < wr.heap.size := fun q e => by have := h.own.lt q e; omega
  have hg : w.heap.size + 3 ≤ g := by
    rcases hp.at' with e | e
    · have := hrow g e; omega
    · omega
  have hne : ∀ q, q < w.heap.size + 3 → some q ≠ v.ownBlock := fun q hq e => by have := hrow q e.symm; omega
  have hfar : ∀ q, q < w.heap.size + 3 → q ≠ w.heap.size + 1 + 1 → ∀ {cs : Array Value}, Blk wr q 35 cs → Blk (w4.setCell ⟨w.heap.size + 1 + 1, 2, none⟩ (.slice (some ⟨g, 0, none⟩) (i + 1) c)) q 35 cs := fun q hq hq2 cs hbk =>
    ((hbk.below hb hbk.lt).grown hp.grown (hne q hq)).far (p := ⟨w.heap.size + 1 + 1, 2, none⟩) hq2 _
  refine ⟨hfar _ (by omega) (by omega) h.blk, hfar _ (by omega) (by omega) h.res, ?_, ?_, ?_, fun j y hy' hj => ?_⟩
  · exact (((h.y.below hb h.y.lt).grown hp.grown (hne _ (by omega))).put 2 _)
  · have := hp.own
    rw [kidC_put ks k i x hx (a3, c3)] at this
    refine this.kept (grown_setCell (p := ⟨w.heap.size + 1 + 1, 2, none⟩) (grown_refl _ _) (.inl rfl) _) (.inr ?_)
    simp [Value.ownBlock]
    omega
  · refine ((h.bel.trans (hb.mono h.bel.size)).trans (below_of_grown hp.grown (by have := h.bel.size; omega) (fun k e => by have := hrow k e; omega))).setCell (by simp; omega) _
  · have gr : w4.grownBy (w4.setCell ⟨w.heap.size + 1 + 1, 2, none⟩ (.slice (some ⟨g, 0, none⟩) (i + 1) c)) (some (w.heap.size + 1 + 1)) := grown_setCell (p := ⟨w.heap.size + 1 + 1, 2, none⟩) (grown_refl _ _) (.inl rfl) _
    have hfin : ∀ (x : Ex) a c'', ExP (fun q => w.heap.size + 2 < q ∧ v.ownBlock ≠ some q) w3 x a c'' → ExP (fun q => w.heap.size + 2 < q ∧ Value.ownBlock (.slice (some ⟨g, 0, none⟩) (i + 1) c) ≠ some q) (w4.setCell ⟨w.heap.size + 1 + 1, 2, none⟩ (.slice (some ⟨g, 0, none⟩) (i + 1) c)) x a c'' := by
      intro x a c' h1
      have h2 : ExP (fun q => (w.heap.size + 2 < q ∧ v.ownBlock ≠ some q) ∧ q < w3.heap.size) w3 x a c' := h1.imp fun q hq hl => ⟨hq, hl⟩
      have h3 := h2.grownP hp.grown (fun k e hk => hk.1.2 e)
      have h4 := h3.grownP gr (fun k e hk => by injection e with e; omega)
      refine h4.imp fun q hq _ => ⟨hq.1.1, ?_⟩
      simp only [Value.ownBlock, ne_eq, Option.some.injEq]
      intro e
      rcases hp.at' with e2 | e2
      · rw [e] at e2; exact hq.1.2 e2
      · omega
    by_cases e : j = i
    · subst e
      rw [hx] at hy'
      injection hy' with hy'
      subst hy'
      simp only [if_true]
      exact hfin _ _ _ (hin.imp fun q hq _ => ⟨by omega, fun e => by have := hrow q e; omega⟩)
    · simp only [e, if_false]
      exact hfin _ _ _ ((h.new j y hy' (by omega)).under hb)
theorem RCopyAt.done {w wr : World} {op n : Int} {ks : List Ex} {a : Option Addr} {cap : Nat} {v : Value} {k : Nat → Option Addr × Nat} (h : RCopyAt w op n ks a cap v ks.length k wr) :
    ∃ a' c', v = .slice a' ks.length c' ∧ ExIn (w.heap.size + 3) wr (.mk op n ks) a' c' := by
  rcases OwnTab.of_own h.own (fun i hi => kidC_len hi) with ⟨e, e0⟩ | ⟨g, c2, e, hg, htab⟩
  · have : ks = [] := List.eq_nil_of_length_eq_zero e0
    subst this
    exact ⟨none, 0, e, .mk k (.inl rfl) (by simp) (by omega) (fun i x h => by simp at h)⟩
  · refine ⟨_, c2, e, ?_⟩
    obtain ⟨cur, hb, hcl⟩ := htab
    have hcap : ks.length ≤ c2 ∧ c2 ≤ 9223372036854775807 := by
      rcases h.own.2 with ⟨e', h0⟩ | ⟨g, cap', cur, e', _, _, hn, hx, _⟩
      · rw [e] at e'; injection e' with e1 e2 e3; cases e1
      · rw [e] at e'; injection e' with _ e1 e2; subst e2; unfold maxLen at hx; omega
    refine .mk k (.inr ⟨g, 0, cur, rfl, hg, hb, fun i hi j hj => ?_⟩) hcap.1 hcap.2 fun i x hx => (h.new i x hx (List.getElem?_eq_some_iff.1 hx).1).imp fun g hg _ => by have := hg.1; omega
    rw [Nat.zero_add]
    exact (hcl i hi).2 j hj

set_option maxRecDepth 100000 in
set_option maxHeartbeats 1000000 in
theorem rcopied_any : ∀ (m : Nat) (x : Ex) (a : Option Addr) (cap : Nat) (w : World), slimE m x → ExAt w x a cap →
    Calls Try.prog 58 #[.agg #[.int .i64 x.op, .int .i64 x.n, .slice a x.kids.length cap]] w (CopyPost x w) := by
  intro m
  induction m with
  | zero => intro x a cap w hs; exact hs.elim
  | succ m ih =>
    intro x a cap w hs hx
    obtain ⟨op, n, ks⟩ := x
    show Calls Try.prog 58 #[.agg #[.int .i64 op, .int .i64 n, .slice a ks.length cap]] w _
    obtain ⟨hl2, hsk⟩ := hs
    obtain ⟨k, ht, hk, hc, hm, h0⟩ := hx.tab
    have IH := Lib.hid ih
    have HSK := Lib.hid hsk
    have HKK := Lib.hid hk
    have HT := Lib.hid ht
    have H0 : RCopyAt w op n ks a cap (.slice none 0 0) 0 k (((w.alloc (.cells #[.int .i64 op, .int .i64 n, .slice a ks.length cap] 35)).alloc (.cells #[.int .i64 0, .int .i64 0, .slice none 0 0] 35)).alloc (.cells #[.int .i64 op, .int .i64 n, .slice none 0 0] 35)) :=
      ⟨((Blk.new w 35 #[.int .i64 op, .int .i64 n, .slice a ks.length cap]).alloc _).alloc _, by
        have := (Blk.new (w.alloc (.cells #[.int .i64 op, .int .i64 n, .slice a ks.length cap] 35)) 35 #[.int .i64 0, .int .i64 0, .slice none 0 0]).alloc (.cells #[.int .i64 op, .int .i64 n, .slice none 0 0] 35)
        simpa using this, by
        have := Blk.new ((w.alloc (.cells #[.int .i64 op, .int .i64 n, .slice a ks.length cap] 35)).alloc (.cells #[.int .i64 0, .int .i64 0, .slice none 0 0] 35)) 35 #[.int .i64 op, .int .i64 n, .slice none 0 0]
        simpa using this, World.ownsRow_nil _ _ _ _, (((Below.refl _ _).alloc (Nat.le_refl _) _).alloc (by simp) _).alloc (by simp; omega) _, fun j x _ h => by omega⟩
    have HH := Lib.hid H0
    clear ht hx h0 ih hsk hk H0
    go_enter Try.func58, Try.ntmps58
    go_wp2_with fail
    go_loopw [4] (fun s wr => ∃ i : Nat, i ≤ ks.length ∧ s = .int .i64 i ∧ ∃ v k', RCopyAt w op n ks a cap v i k' wr) (fun s _ => ks.length - (intOf s).toNat)
    case atStart => exact ⟨0, by omega, rfl, _, k, HH.out⟩
    case round =>
      obtain ⟨i, hi, rfl, v, k', hat⟩ := hrel
      have HA := Lib.hid hat
      have i0 : (0 : Int) ≤ (i : Int) := by omega
      by_cases hlt : i < ks.length
      · have d1 : decide (i < ks.length) = true := by simpa using hlt
        have i1 : (i : Int) < (ks.length : Int) := by omega
        have hx : ks[i]? = some ks[i] := List.getElem?_eq_getElem hlt
        generalize ks[i] = x at hx
        obtain ⟨xo, xn, xk⟩ := x
        obtain ⟨hl, b, o, rfl, hb, hcc⟩ := HT.out i hlt
        have cl : ∀ j, j < 3 → ∀ W, Below w.heap.size w W → W.cell? ⟨b, o + i * 3 + j, none⟩ = (exC xo xn (k i).1 xk.length (k i).2)[j]? := fun j hj W hb' => by rw [hb'.cell (p := ⟨b, o + i * 3 + j, none⟩) hb, hcc j hj, kidC_at hx]; rfl
        have y0 := hat.blk.cell 0
        have y1 := hat.blk.cell 1
        have y2 := hat.blk.cell 2
        have t2 := hat.y.cell 2
        have HX := Lib.hid hx
        have KR := Lib.hid (fun W (hb : Below w.heap.size w W) => IH.out (.mk xo xn xk) (k i).1 (k i).2 W (HSK.out _ (List.mem_of_getElem? hx)) ((HKK.out i _ hx).under hb))
        have hSall : ∀ W, Below w.heap.size w W → Blk W w.heap.size 35 #[.int .i64 op, .int .i64 n, .slice (some ⟨b, o, none⟩) ks.length cap] → Blk W (w.heap.size + 1 + 1) 35 #[.int .i64 op, .int .i64 n, v] → (W.cell? ⟨w.heap.size + 1 + 1, 2, none⟩ = some v ∧ W.cell? ⟨w.heap.size, 2, none⟩ = some (.slice (some ⟨b, o, none⟩) ks.length cap) ∧ W.cell? ⟨b, o + i * 3, none⟩ = some (.int .i64 xo) ∧ W.cell? ⟨b, o + i * 3 + 1, none⟩ = some (.int .i64 xn) ∧ W.cell? ⟨b, o + i * 3 + 2, none⟩ = some (.slice (k i).1 xk.length (k i).2)) := fun W h1 h2 h3 => ⟨h3.cell' 2 rfl, h2.cell' 2 rfl, cl 0 (by omega) W h1, cl 1 (by omega) W h1, cl 2 (by omega) W h1⟩
        have HS := Lib.hid hSall
        clear cl hat hx hcc hSall hl
        go_wp2_with fail
        refine region_E (S := fun W => W.cell? ⟨w.heap.size + 1 + 1, 2, none⟩ = some v ∧ W.cell? ⟨w.heap.size, 2, none⟩ = some (.slice (some ⟨b, o, none⟩) ks.length cap) ∧ W.cell? ⟨b, o + i * 3, none⟩ = some (.int .i64 xo) ∧ W.cell? ⟨b, o + i * 3 + 1, none⟩ = some (.int .i64 xn) ∧ W.cell? ⟨b, o + i * 3 + 2, none⟩ = some (.slice (k i).1 xk.length (k i).2)) 11 (by kernel_rfl) ?_
        have hS0 := HS.out wr.drew HA.out.bel.drew HA.out.blk.drew HA.out.y.drew
        refine take_E 0 (v := .pointer (some ⟨w.heap.size + 1 + 1, 2, none⟩)) rfl (by kernel_rfl) (by kernel_rfl) (by kernel_rfl) (by kernel_rfl) (fun _ _ _ h => h) rfl (fun W' hW' => by go_simp) hS0 ?_
        refine take_E 1 (v := v) rfl (by kernel_rfl) (by kernel_rfl) (by kernel_rfl) (by kernel_rfl) (fun _ _ _ h => h) rfl (fun W' hW' => by obtain ⟨e0, e1, e2, e3, e4⟩ := hW'; go_simp) hS0 ?_
        refine take_E 2 (v := .pointer (some ⟨w.heap.size, 2, none⟩)) rfl (by kernel_rfl) (by kernel_rfl) (by kernel_rfl) (by kernel_rfl) (fun _ _ _ h => h) rfl (fun W' hW' => by go_simp) hS0 ?_
        refine take_E 3 (v := .slice (some ⟨b, o, none⟩) ks.length cap) rfl (by kernel_rfl) (by kernel_rfl) (by kernel_rfl) (by kernel_rfl) (fun _ _ _ h => h) rfl (fun W' hW' => by obtain ⟨e0, e1, e2, e3, e4⟩ := hW'; go_simp) hS0 ?_
        refine take_E 4 (v := .int .i64 i) rfl (by kernel_rfl) (by kernel_rfl) (by kernel_rfl) (by kernel_rfl) (fun _ _ _ h => h) rfl (fun W' hW' => by go_simp) hS0 ?_
        refine take_E 5 (v := .pointer (some ⟨b, o + i * 3, none⟩)) rfl (by kernel_rfl) (by kernel_rfl) (by kernel_rfl) (by kernel_rfl) (fun _ _ _ h => h) rfl (fun W' hW' => by go_simp) hS0 ?_
        refine take_E 6 (v := .agg #[.int .i64 xo, .int .i64 xn, .slice (k i).1 xk.length (k i).2]) rfl (by kernel_rfl) (by kernel_rfl) (by kernel_rfl) (by kernel_rfl) (fun _ _ _ h => h) rfl (fun W' hW' => by obtain ⟨e0, e1, e2, e3, e4⟩ := hW'; go_simp) hS0 ?_
        refine one_E 7 (by kernel_rfl) rfl rfl fun K7 hK7 => ?_
        have HK7 := Lib.hid hK7
        clear hK7
        go_simp
        go_at_call 58
        refine (KR.out _ HA.out.bel.drew).mono ?_
        rintro e w3 ⟨a3, c3, rfl, hin, b3⟩
        have hbw : Below wr.heap.size wr w3 := (Below.refl _ _).drew.trans b3
        have bel3 : Below w.heap.size w w3 := HA.out.bel.trans (hbw.mono HA.out.bel.size)
        have blk3 := HA.out.blk.below hbw HA.out.blk.lt
        have y3 := HA.out.y.below hbw HA.out.y.lt
        have hS3 := HS.out w3 bel3 blk3 y3
        refine HK7.out _ _ (fun _ => hS3) ?_
        refine one_E 8 (by kernel_rfl) rfl rfl fun K8 hK8 => ?_
        have HK8 := Lib.hid hK8
        clear hK8
        refine wp_expr1 (.tmp 24) (.int .i64 xo) (.int .i64 xn) (.slice a3 xk.length c3) rfl (by with_unfolding_all rfl) ?_
        have bel4 := bel3.alloc bel3.size (.cells #[.int .i64 xo, .int .i64 xn, .slice a3 xk.length c3] 35)
        have blk4 := blk3.alloc (.cells #[.int .i64 xo, .int .i64 xn, .slice a3 xk.length c3] 35)
        have y4 := y3.alloc (.cells #[.int .i64 xo, .int .i64 xn, .slice a3 xk.length c3] 35)
        have hS4 := HS.out _ bel4 blk4 y4
        refine HK8.out _ _ (fun _ => hS4) ?_
        refine one_E 9 (by kernel_rfl) rfl rfl fun K9 hK9 => ?_
        have HK9 := Lib.hid hK9
        clear hK9
        have hgp : ∀ q, q < w.heap.size + 3 → some q ≠ v.ownBlock := fun q hq e => by have := HA.out.own.lt q e.symm; omega
        refine wp_push (.tmp 18) (.tmp 25) 33 rfl (w.heap.size + 3) 35 (Value.agg #[.int .i64 0, .int .i64 0, .slice none 0 0]) 3 40 Try.underlying33 infoExpr (by kernel_rfl) (by decide) (by decide) v i (kidC ks k') (by with_unfolding_all rfl)
          ((own_grown HA.out.own (grown_of_below hbw) (by intro k e; cases e)).alloc _) w3.heap.size (exC xo xn a3 xk.length c3) (by with_unfolding_all rfl) (Blk.new w3 35 _) rfl (by intro u hu; simp [exC] at hu; rcases hu with rfl | rfl | rfl <;> rfl) (by omega) (by have := HA.out.y.lt; have := hbw.size; simp; omega) fun g c w5 hp => ?_
        have bel5 : Below w.heap.size w w5 := bel4.trans (below_of_grown hp.grown (by have := bel4.size; omega) (fun k e => by have := HA.out.own.lt k e; omega))
        have blk5 := blk4.grown hp.grown (hgp _ (by omega))
        have y5 := y4.grown hp.grown (hgp _ (by omega))
        have hS5 := HS.out _ bel5 blk5 y5
        refine HK9.out _ _ (fun _ => hS5) ?_
        have hst := HA.out.step HX.out (hbw.alloc (by have := hbw.size; omega) _) ((hin.under ((Below.refl _ _).alloc (Nat.le_refl _) _)).mono (Nat.le_refl _)) hp
        have HST := Lib.hid hst
        have t5 := y5.cell 2
        have z5 := y5.frozen 2
        refine one_E 10 (by kernel_rfl) rfl rfl fun K10 hK10 => ?_
        have HK10 := Lib.hid hK10
        clear hK10
        go_simp
        refine HK10.out _ _ (fun _ => hS5) ?_
        refine one_E 11 (by kernel_rfl) rfl rfl fun K11 hK11 => ?_
        have HK11 := Lib.hid hK11
        clear hK11
        go_simp
        refine HK11.out _ _ (fun h => absurd rfl h) ?_
        refine done_E (by kernel_rfl) ?_ _
        clear hst hS0 hS3 hS4 hS5 t5 z5 y5 blk5 bel5 y4 blk4 bel4 y3 blk3 bel3 hp hin b3 hbw hgp HS KR HX HK7 HK8 HK9 HK10 HK11 y0 y1 y2 t2
        go_simp
        go_wp2_with fail
        go_roundw
        case rel => exact ⟨i + 1, by omega, by go_num, _, _, HST.out⟩
        case measure => simp [intOf]; omega
      · obtain rfl : i = ks.length := by omega
        have d1 : decide (ks.length < ks.length) = false := by simp
        have y0 := hat.blk.cell 0
        have y1 := hat.blk.cell 1
        have y2 := hat.blk.cell 2
        have t0 := hat.y.cell 0
        have t1 := hat.y.cell 1
        have t2 := hat.y.cell 2
        have r0 := hat.res.cell 0
        have r1 := hat.res.cell 1
        have r2 := hat.res.cell 2
        have s0 := hat.res.frozen 0
        have s1 := hat.res.frozen 1
        have s2 := hat.res.frozen 2
        clear hat
        obtain ⟨a', c', rfl, hin⟩ := HA.out.done
        have HIN := Lib.hid hin
        clear hin
        go_wp2_with fail
        refine bodyPost_ret (results_cell_row rfl _ _ (w.heap.size + 1) 35 #[.int .i64 op, .int .i64 n, .slice a' ks.length c'] (0, 0) _ rfl (show Blk _ _ _ _ from (((HA.out.res.put 0 _).put 1 _).put 2 _)) Try.underlying35 rfl (by kernel_rfl)) rfl ?_
        have hin := HIN.out
        have gr : ∀ u v z : Value, wr.grownBy (((wr.setCell ⟨w.heap.size + 1, 0, none⟩ u).setCell ⟨w.heap.size + 1, 1, none⟩ v).setCell ⟨w.heap.size + 1, 2, none⟩ z) (some (w.heap.size + 1)) := fun u v z =>
          grown_setCell (p := ⟨w.heap.size + 1, 2, none⟩) (grown_setCell (p := ⟨w.heap.size + 1, 1, none⟩) (grown_setCell (p := ⟨w.heap.size + 1, 0, none⟩) (grown_refl _ _) (.inl rfl) u) (.inl rfl) v) (.inl rfl) z
        exact ⟨a', c', rfl, (hin.grown (gr _ _ _) (fun k e => by injection e with e; omega)).mono (by omega), ((HA.out.bel.setCell (by simp) _).setCell (by simp) _).setCell (by simp) _⟩
end Go.Proofs.Yteiogjgmedikhaa
