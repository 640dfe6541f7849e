/-
  library.copied.
-/
import Derived.Test.YteiogjgmedikhaaClone09
import Derived.Test.YteiogjgmedikhaaHeldBy
import Derived.Test.YteiogjgmedikhaaChecked
namespace Go.Proofs.Yteiogjgmedikhaa
open Go Go.RowKit
set_option linter.unusedVariables false

/-- What copied returns: the same tree in new memory. -/
def CopyPost (x : Ex) (w : World) (e : Ending) (w' : World) : Prop :=
  ∃ a cap, e = .returned (.agg #[.int .i64 x.op, .int .i64 x.n, .slice a x.kids.length cap]) ∧ ExIn w.heap.size w' x a cap ∧ Below w.heap.size w w'
theorem kidC_put (ks : List Ex) (k : Nat → Option Addr × Nat) (i : Nat) (x : Ex) (hx : ks[i]? = some x) (p : Option Addr × Nat) :
    (fun j => if j = i then exC x.op x.n p.1 x.kids.length p.2 else kidC ks k j) = kidC ks (fun j => if j = i then p else k j) := by
  funext j
  by_cases e : j = i
  · subst e
    rw [if_pos rfl, kidC_at hx, if_pos rfl]
  · rw [if_neg e]
    unfold kidC
    cases ks[j]? with
    | none => rfl
    | some y => simp [e]
/-- The head of a round of copied's loop, at kid i: 'k' tells where the kids' kids lie now; those ahead of i have been copied. -/
structure CopyAt (w : World) (op n : Int) (ks : List Ex) (g c : Nat) (i : Nat) (k : Nat → Option Addr × Nat) (wr : World) : Prop where
  blk : Blk wr w.heap.size 35 #[.int .i64 op, .int .i64 n, .slice (some ⟨g, 0, none⟩) ks.length c]
  res : Blk wr (w.heap.size + 1) 35 #[.int .i64 0, .int .i64 0, .slice none 0 0]
  tab : OwnTab wr g 35 3 ks.length (kidC ks k)
  far : w.heap.size + 2 ≤ g
  bel : Below w.heap.size w wr
  old : ∀ (j : Nat) (x : Ex), ks[j]? = some x → i ≤ j → ExAt w x (k j).1 (k j).2
  new : ∀ (j : Nat) (x : Ex), ks[j]? = some x → j < i → ExIn (g + 1) wr x (k j).1 (k j).2
theorem CopyAt.done {w wr : World} {op n : Int} {ks : List Ex} {g c : Nat} {k : Nat → Option Addr × Nat} (h : CopyAt w op n ks g c ks.length k wr) (hc : ks.length ≤ c) (hm : c ≤ 9223372036854775807) :
    ExIn (w.heap.size + 2) wr (.mk op n ks) (some ⟨g, 0, none⟩) c := by
  have hf := h.far
  have hnew := h.new
  obtain ⟨cur, hb, hcl⟩ := h.tab
  refine .mk k (.inr ⟨g, 0, cur, rfl, by omega, hb, fun i hi j hj => ?_⟩) hc hm fun i x hx => (hnew i x hx (List.getElem?_eq_some_iff.1 hx).1).mono (by omega)
  rw [Nat.zero_add]
  exact (hcl i hi).2 j hj
theorem CopyAt.step {w wr w3 : World} {op n : Int} {ks : List Ex} {g c i : Nat} {k : Nat → Option Addr × Nat} (h : CopyAt w op n ks g c i k wr) {x : Ex} (hx : ks[i]? = some x) (hb : Below wr.heap.size wr w3) {a3 : Option Addr} {c3 : Nat} (hin : ExIn wr.heap.size w3 x a3 c3) :
    CopyAt w op n ks g c (i + 1) (fun j => if j = i then (a3, c3) else k j) (w3.setCells g (i * 3) (exC x.op x.n a3 x.kids.length c3)) := by
  have hi : i < ks.length := (List.getElem?_eq_some_iff.1 hx).1
  have hf := h.far
  have hg : g < wr.heap.size := h.tab.lt
  have gr : w3.grownBy (w3.setCells g (i * 3) (exC x.op x.n a3 x.kids.length c3)) (some g) := grown_setCells (.inl rfl) _ _ _ (grown_refl _ _)
  have hs := hb.size
  refine ⟨(h.blk.below hb h.blk.lt).setCellsFar (by omega) _ _ _, (h.res.below hb h.res.lt).setCellsFar (by omega) _ _ _, ?_, hf, ?_, fun j y hy hj => ?_, fun j y hy hj => ?_⟩
  · have := (h.tab.below hb hg).setCells hi (vs := exC x.op x.n a3 x.kids.length c3) rfl
    rwa [kidC_put ks k i x hx (a3, c3)] at this
  · exact (h.bel.trans (hb.mono h.bel.size)).trans ((below_of_grown gr (by have := h.bel.size; omega) (fun k e => by injection e with e; omega)))
  · simp only [show j ≠ i by omega, if_false]
    exact h.old j y hy (by omega)
  · by_cases e : j = i
    · subst e
      rw [hx] at hy
      injection hy with hy
      subst hy
      simp only [if_true]
      exact (hin.grown gr (fun k e => by injection e with e; omega)).mono (by omega)
    · simp only [e, if_false]
      exact ((h.new j y hy (by omega)).under hb).grown gr (fun k e => by injection e with e; omega)

set_option maxRecDepth 100000 in
set_option maxHeartbeats 1000000 in
theorem copied_any : ∀ (m : Nat) (x : Ex) (a : Option Addr) (cap : Nat) (w : World), slimE m x → ExAt w x a cap →
    Calls Try.prog 53 #[.agg #[.int .i64 x.op, .int .i64 x.n, .slice a x.kids.length cap]] w (CopyPost x w) := by
  intro m
  induction m with
  | zero => intro x a cap w hs; exact hs.elim
  | succ m ih =>
    intro x a cap w hs hx
    obtain ⟨op, n, ks⟩ := x
    show Calls Try.prog 53 #[.agg #[.int .i64 op, .int .i64 n, .slice a ks.length cap]] w _
    obtain ⟨hl2, hsk⟩ := hs
    obtain ⟨k, ht, hk, hc, hm, h0⟩ := hx.tab
    have IH := Lib.hid ih
    have HSK := Lib.hid hsk
    have HKK := Lib.hid hk
    have K0 := (Keeps.new (Below.refl w.heap.size w) (Nat.le_refl _) 35 #[.int .i64 op, .int .i64 n, .slice a ks.length cap]).alloc (.cells #[.int .i64 0, .int .i64 0, .slice none 0 0] 35)
    have R0 : Blk ((w.alloc (.cells #[.int .i64 op, .int .i64 n, .slice a ks.length cap] 35)).alloc (.cells #[.int .i64 0, .int .i64 0, .slice none 0 0] 35)) (w.heap.size + 1) 35 #[.int .i64 0, .int .i64 0, .slice none 0 0] := by
      have := Blk.new (w.alloc (.cells #[.int .i64 op, .int .i64 n, .slice a ks.length cap] 35)) 35 #[.int .i64 0, .int .i64 0, .slice none 0 0]
      simpa using this
    have HK0 := Lib.hid K0
    have HR0 := Lib.hid R0
    have KC := Lib.hid (fun W (hb : Below w.heap.size w W) => clone_expr a ks.length cap (kidC ks k) W (ht.below hb) (fun i _ => kidC_one) h0 (by omega))
    clear K0 ht hx h0 ih hsk hk R0
    go_enter Try.func53, Try.ntmps53
    go_wp2_with fail
    refine (KC.out _ HK0.out.bel).mono ?_
    rintro e w1 ⟨v', rfl, hown, b1⟩
    obtain ⟨a', c', rfl⟩ := own_form hown
    have K1 := Lib.hid (HK0.out.below b1)
    have R1 := Lib.hid (HR0.out.below b1 HR0.out.lt)
    have f2 := K1.out.blk.cell 2
    have z2 := K1.out.blk.frozen 2
    have b2 := Lib.hid b1
    clear b1
    have HSZ := Lib.hid (show ((w.alloc (.cells #[.int .i64 op, .int .i64 n, .slice a ks.length cap] 35)).alloc (.cells #[.int .i64 0, .int .i64 0, .slice none 0 0] 35)).heap.size = w.heap.size + 2 by simp)
    have K2 := Lib.hid (show Blk (w1.setCell ⟨w.heap.size, 2, none⟩ (.slice a' ks.length c')) w.heap.size 35 #[.int .i64 op, .int .i64 n, .slice a' ks.length c'] from K1.out.blk.put 2 (.slice a' ks.length c'))
    have R2 := Lib.hid (R1.out.far (p := ⟨w.heap.size, 2, none⟩) (by show w.heap.size + 1 ≠ w.heap.size; omega) (.slice a' ks.length c'))
    have B2 := Lib.hid (show Below w.heap.size w (w1.setCell ⟨w.heap.size, 2, none⟩ (.slice a' ks.length c')) from K1.out.bel.setCell (Nat.le_refl _) _)
    have hcap : ks.length ≤ c' ∧ c' ≤ 9223372036854775807 := by
      rcases hown.2 with ⟨e, h0⟩ | ⟨g, cap', cur, e, _, _, hn, hx, _⟩
      · injection e with _ e1 e2; omega
      · injection e with _ e1 e2; subst e2; unfold maxLen at hx; omega
    have HCAP := Lib.hid hcap
    clear hcap
    by_cases hks : ks = []
    · subst hks
      clear hown
      go_wp2_with fail
      go_loopw [12] (fun s wr => s = .int .i64 0 ∧ Blk wr w.heap.size 35 #[.int .i64 op, .int .i64 n, .slice a' 0 c'] ∧ Blk wr (w.heap.size + 1) 35 #[.int .i64 0, .int .i64 0, .slice none 0 0] ∧ Below w.heap.size w wr) (fun s _ => 0)
      case atStart => exact ⟨rfl, K2.out, R2.out, B2.out⟩
      obtain ⟨rfl, hb, hr, bel⟩ := hrel
      have y0 := hb.cell 0
      have y1 := hb.cell 1
      have y2 := hb.cell 2
      have r0 := hr.cell 0
      have r1 := hr.cell 1
      have r2 := hr.cell 2
      have s0 := hr.frozen 0
      have s1 := hr.frozen 1
      have s2 := hr.frozen 2
      have BEL := Lib.hid bel
      have HR := Lib.hid hr
      clear hb hr bel
      go_wp2_with fail
      refine bodyPost_ret (results_cell_row rfl _ _ (w.heap.size + 1) 35 #[.int .i64 op, .int .i64 n, .slice a' 0 c'] (0, 0) _ rfl (show Blk _ _ _ _ from (((HR.out.put 0 _).put 1 _).put 2 _)) Try.underlying35 rfl (by kernel_rfl)) rfl ?_
      exact ⟨a', c', rfl, .mk k (.inl rfl) HCAP.out.1 HCAP.out.2 (fun i x h => by simp at h), ((BEL.out.setCell (by simp) _).setCell (by simp) _).setCell (by simp) _⟩
    · have hpos : 0 < ks.length := List.length_pos_iff.2 hks
      rcases OwnTab.of_own hown (fun i hi => kidC_len hi) with ⟨e, e0⟩ | ⟨g, c2, e, hg, htab⟩
      · omega
      injection e with e1 _ e2
      subst e1 e2
      have hat : CopyAt w op n ks g c' 0 k (w1.setCell ⟨w.heap.size, 2, none⟩ (.slice (some ⟨g, 0, none⟩) ks.length c')) := by
        have hsz := HSZ.out
        have h1 := htab.lt
        have gr : w1.grownBy (w1.setCell ⟨w.heap.size, 2, none⟩ (.slice (some ⟨g, 0, none⟩) ks.length c')) (some w.heap.size) := grown_setCell (grown_refl _ _) (.inl rfl) _
        exact ⟨K2.out, R2.out, htab.grown gr (by intro e; injection e with e; omega), by omega, B2.out, fun j x hx _ => HKK.out j x hx, fun j x _ h => by omega⟩
      have HAT := Lib.hid hat
      clear hat hown htab hg hks
      go_wp2_with fail
      go_loopw [12] (fun s wr => ∃ i : Nat, i ≤ ks.length ∧ s = .int .i64 i ∧ ∃ k', CopyAt w op n ks g c' i k' wr) (fun s _ => ks.length - (intOf s).toNat)
      case atStart => exact ⟨0, by omega, rfl, k, HAT.out⟩
      case round =>
        obtain ⟨i, hi, rfl, k', hat⟩ := hrel
        have HA := Lib.hid hat
        have i0 : (0 : Int) ≤ (i : Int) := by omega
        have y0 := hat.blk.cell 0
        have y1 := hat.blk.cell 1
        have y2 := hat.blk.cell 2
        by_cases hlt : i < ks.length
        · have d1 : decide (i < ks.length) = true := by simpa using hlt
          have i1 : (i : Int) < (ks.length : Int) := by omega
          have hx : ks[i]? = some ks[i] := List.getElem?_eq_getElem hlt
          generalize ks[i] = x at hx
          obtain ⟨xo, xn, xk⟩ := x
          have cl : ∀ j, j < 3 → wr.cell? ⟨g, i * 3 + j, none⟩ = (exC xo xn (k' i).1 xk.length (k' i).2)[j]? := fun j hj => by rw [hat.tab.cell hlt hj, kidC_at hx]; rfl
          have p0 := cl 0 (by omega)
          have p1 := cl 1 (by omega)
          have p2 := cl 2 (by omega)
          simp only [Nat.add_zero, exC] at p0 p1 p2
          have HX := Lib.hid hx
          have KR := Lib.hid (fun W (hb : Below w.heap.size w W) => IH.out (.mk xo xn xk) (k' i).1 (k' i).2 W (HSK.out _ (List.mem_of_getElem? hx)) ((hat.old i _ hx (Nat.le_refl _)).under hb))
          have BV := Lib.hid (show Below wr.heap.size wr (wr.alloc (.cells #[.int .i64 xo, .int .i64 xn, .slice (k' i).1 xk.length (k' i).2] 35)).drew from ((Below.refl _ _).alloc (Nat.le_refl _) _).drew)
          have hN := Blk.new wr 35 #[.int .i64 xo, .int .i64 xn, .slice (k' i).1 xk.length (k' i).2]
          have HN := Lib.hid hN
          have hSall : ∀ W, Below (wr.heap.size + 1) (wr.alloc (.cells #[.int .i64 xo, .int .i64 xn, .slice (k' i).1 xk.length (k' i).2] 35)) W → (W.cell? ⟨w.heap.size, 2, none⟩ = some (.slice (some ⟨g, 0, none⟩) ks.length c') ∧ W.cell? ⟨wr.heap.size, 0, none⟩ = some (.int .i64 xo) ∧ W.cell? ⟨wr.heap.size, 1, none⟩ = some (.int .i64 xn) ∧ W.cell? ⟨wr.heap.size, 2, none⟩ = some (.slice (k' i).1 xk.length (k' i).2)) := fun W hb => by
            have h1 := HN.out.below hb (by omega)
            have h2 := (HA.out.blk.alloc (.cells #[.int .i64 xo, .int .i64 xn, .slice (k' i).1 xk.length (k' i).2] 35)).below hb (by have := HA.out.blk.lt; omega)
            exact ⟨h2.cell' 2 rfl, h1.cell' 0 rfl, h1.cell' 1 rfl, h1.cell' 2 rfl⟩
          have HS := Lib.hid hSall
          clear cl hat hx hN hSall
          go_wp2_with fail
          refine wp_region_held_drew (S := fun W => W.cell? ⟨w.heap.size, 2, none⟩ = some (.slice (some ⟨g, 0, none⟩) ks.length c') ∧ W.cell? ⟨wr.heap.size, 0, none⟩ = some (.int .i64 xo) ∧ W.cell? ⟨wr.heap.size, 1, none⟩ = some (.int .i64 xn) ∧ W.cell? ⟨wr.heap.size, 2, none⟩ = some (.slice (k' i).1 xk.length (k' i).2)) (by kernel_rfl) (HS.out _ (Below.refl _ _).drew) fun hS0 => ?_
          refine take_first 0 (v := .pointer (some ⟨w.heap.size, 2, none⟩)) rfl (by kernel_rfl) (by kernel_rfl) (by kernel_rfl) (fun _ _ _ h => h) rfl (fun W' hW' => by go_simp) hS0 ?_
          refine take_first 1 (v := .slice (some ⟨g, 0, none⟩) ks.length c') rfl (by kernel_rfl) (by kernel_rfl) (by kernel_rfl) (fun _ _ _ h => h) rfl (fun W' hW' => by obtain ⟨e0, e1, e2, e3⟩ := hW'; go_simp) hS0 ?_
          refine take_first 2 (v := .int .i64 i) rfl (by kernel_rfl) (by kernel_rfl) (by kernel_rfl) (fun _ _ _ h => h) rfl (fun W' hW' => by go_simp) hS0 ?_
          refine take_first 3 (v := .agg #[.int .i64 xo, .int .i64 xn, .slice (k' i).1 xk.length (k' i).2]) rfl (by kernel_rfl) (by kernel_rfl) (by kernel_rfl) (fun _ _ _ h => h) rfl (fun W' hW' => by obtain ⟨e0, e1, e2, e3⟩ := hW'; go_simp) hS0 ?_
          refine one_next 4 (by kernel_rfl) rfl rfl fun K4 hK4 => ?_
          have HK4 := Lib.hid hK4
          clear hK4
          go_simp
          go_at_call 53
          refine (KR.out _ (HA.out.bel.trans (BV.out.mono HA.out.bel.size))).mono ?_
          rintro e w3 ⟨a3, c3, rfl, hin, b3⟩
          have hbw : Below wr.heap.size wr w3 := BV.out.trans (b3.mono (by simp [World.drew]))
          have hb1 : Below (wr.heap.size + 1) (wr.alloc (.cells #[.int .i64 xo, .int .i64 xn, .slice (k' i).1 xk.length (k' i).2] 35)) w3 := (Below.refl _ _).drew.trans (b3.mono (by simp [World.drew]))
          have hin' : ExIn wr.heap.size w3 (.mk xo xn xk) a3 c3 := hin.mono (by simp [World.drew])
          have hst := HA.out.step HX.out hbw hin'
          have hth : w3.there g (i * 3) 3 := (HA.out.tab.below hbw HA.out.tab.lt).there hlt
          have HST := Lib.hid hst
          have hS3 := HS.out _ hb1
          refine HK4.out _ _ hS3 ?_
          clear hst
          refine take_first 5 (v := .pointer (some ⟨g, i * 3, none⟩)) rfl (by kernel_rfl) (by kernel_rfl) (by kernel_rfl) (fun _ _ _ h => h) rfl (fun W' hW' => by go_simp) hS3 ?_
          refine one_next 6 (by kernel_rfl) rfl rfl fun K6 hK6 => ?_
          have HK6 := Lib.hid hK6
          clear hK6
          refine wp_store_mid 35 (.tmp 22) (.tmp 21) rfl g (i * 3) #[.int .i64 xo, .int .i64 xn, .slice a3 xk.length c3] rfl rfl hth (by kernel_rfl) (by simp [Value.oneCell']) ?_
          have hn4 := (HN.out.below hb1 (by omega)).setCellsFar (g' := g) (by have := HA.out.tab.lt; omega) (exC xo xn a3 xk.length c3) (i * 3) _
          refine HK6.out _ _ ⟨HST.out.blk.cell' 2 rfl, hn4.cell' 0 rfl, hn4.cell' 1 rfl, hn4.cell' 2 rfl⟩ ?_
          refine wpAnyH_done (by kernel_rfl) ?_ _
          clear hS0 hS3 hn4 hth hin hin' hb1 hbw b3 p0 p1 p2 HK4 HK6 BV HN HS KR HX y0 y1 y2
          go_simp
          go_wp2_with fail
          go_roundw
          case rel => exact ⟨i + 1, by omega, by go_num, _, HST.out⟩
          case measure => simp [intOf]; omega
        · obtain rfl : i = ks.length := by omega
          have d1 : decide (ks.length < ks.length) = false := by simp
          have r0 := hat.res.cell 0
          have r1 := hat.res.cell 1
          have r2 := hat.res.cell 2
          have s0 := hat.res.frozen 0
          have s1 := hat.res.frozen 1
          have s2 := hat.res.frozen 2
          clear hat
          go_wp2_with fail
          refine bodyPost_ret (results_cell_row rfl _ _ (w.heap.size + 1) 35 #[.int .i64 op, .int .i64 n, .slice (some ⟨g, 0, none⟩) ks.length c'] (0, 0) _ rfl (show Blk _ _ _ _ from (((HA.out.res.put 0 _).put 1 _).put 2 _)) Try.underlying35 rfl (by kernel_rfl)) rfl ?_
          have hin := HA.out.done HCAP.out.1 HCAP.out.2
          have hfar := HA.out.far
          have gr : ∀ u v z : Value, wr.grownBy (((wr.setCell ⟨w.heap.size + 1, 0, none⟩ u).setCell ⟨w.heap.size + 1, 1, none⟩ v).setCell ⟨w.heap.size + 1, 2, none⟩ z) (some (w.heap.size + 1)) := fun u v z =>
            grown_setCell (p := ⟨w.heap.size + 1, 2, none⟩) (grown_setCell (p := ⟨w.heap.size + 1, 1, none⟩) (grown_setCell (p := ⟨w.heap.size + 1, 0, none⟩) (grown_refl _ _) (.inl rfl) u) (.inl rfl) v) (.inl rfl) z
          exact ⟨_, c', rfl, (hin.grown (gr _ _ _) (fun k e => by injection e with e; omega)).mono (by omega), ((HA.out.bel.setCell (by simp) _).setCell (by simp) _).setCell (by simp) _⟩
end Go.Proofs.Yteiogjgmedikhaa
