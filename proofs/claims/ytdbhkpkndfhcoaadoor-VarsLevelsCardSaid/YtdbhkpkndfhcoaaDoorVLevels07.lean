/-
  VarsLevels returns true. Its arguments: any scripts that lie in memory, any numbers.
-/
import Derived.Test.YtdbhkpkndfhcoaaDoorVCopies07
import Derived.Test.YtdbhkpkndfhcoaaDoorVDepth07
namespace Go.Proofs.YtdbhkpkndfhcoaaDoor
open Go Go.RowKit
set_option linter.unusedVariables false

/-- The local variables that have been looked at. -/
def wasF (n : Nat) (V : List Int) (i : Nat) : Nat → Int := fun k => if k < i then V.getD ((n - 1) * 33 + k) 0 else 0
theorem wasF_zero (n : Nat) (V : List Int) : wasF n V 0 = fun _ => 0 := by funext k; unfold wasF; rw [if_neg (by omega)]
theorem wasF_succ (n : Nat) (V : List Int) (i : Nat) : updC (wasF n V i) i (V.getD ((n - 1) * 33 + i) 0) = wasF n V (i + 1) := by
  funext k
  unfold updC wasF
  by_cases e : k = i
  · subst e; rw [if_pos rfl, if_pos (by omega)]
  · rw [if_neg e]
    by_cases h : k < i
    · rw [if_pos h, if_pos (by omega)]
    · rw [if_neg h, if_neg (by omega)]
theorem wasF_at (n : Nat) (V : List Int) {j : Nat} (h : j < 33) : wasF n V 33 j = V.getD ((n - 1) * 33 + j) 0 := by unfold wasF; rw [if_pos h]
/-- The levels below the present one stay. -/
theorem after_take {d : ActD} {x : SD} (h : d.what = 1 ∨ d.what = 2) : (afterS d x).n = x.n ∧ (afterS d x).V.take ((x.n - 1) * 33) = x.V.take ((x.n - 1) * 33) := by
  rcases h with h | h
  · rw [after1 h]
    refine ⟨rfl, ?_⟩
    show (setVs x.n x.V (kOf d) (vOf d)).take _ = _
    unfold setVs
    split
    · rw [List.take_set_of_le (by omega)]
    · rfl
  · rw [after2 h]
    exact ⟨rfl, rfl⟩
theorem setE_common {k v : Int} (hk : 100 ≤ k ∧ k ≤ 199) (hv : okV v) : setE k v = 0 := by unfold setE; rw [if_neg (by omega), if_pos (.inr hk), if_pos hv]
theorem setVs_common {n : Nat} {V : List Int} {k v : Int} (hk : 100 ≤ k ∧ k ≤ 199) : setVs n V k v = V := if_neg (by omega)
theorem setC_common {C : Nat → Int} {k v : Int} (hk : 100 ≤ k ∧ k ≤ 199) (hv : okV v) : setC C k v = updC C (k - 100).toNat v := if_pos ⟨hk, hv⟩
theorem get_common {n : Nat} {V : List Int} {C : Nat → Int} {k v : Int} (hk : 100 ≤ k ∧ k ≤ 199) : getV n V (updC C (k - 100).toNat v) k = (v, 0) := by
  unfold getV; rw [if_neg (by omega), if_pos hk]
  show (updC C (k - 100).toNat v (k - 100).toNat, (0 : Int)) = (v, 0)
  unfold updC; rw [if_pos rfl]
theorem zero33 : Tryd.prog.built 50 [] = some (lvC fun _ => 0) := by kernel_rfl
theorem info33 : (Tryd.prog.info? 50).map (·.size) = some 33 := by kernel_rfl
theorem lvC_one (l : Nat → Int) : (lvC l).all (·.oneCell') = true := by
  rw [Array.all_eq_true']
  intro x hx
  simp [lvC] at hx
  obtain ⟨i, _, rfl⟩ := hx
  rfl
theorem new_take {V : List Int} {n : Nat} (h : V.length = n * 33) (l : List Int) : (V ++ l).take (n * 33) = V := by
  rw [← h, List.take_left']; rfl

set_option maxRecDepth 100000 in
set_option maxHeartbeats 4000000 in
theorem vlevels_walk (a a1 : Option Addr) (L L1 : List ActD) (cp cp1 : Nat) (N U : Int) (w : World) (hA : ActsAt w a L) (hl : L.length ≤ 9223372036854775807) (hA1 : ActsAt w a1 L1) (hl1 : L1.length ≤ 9223372036854775807) (ht : Lib.TabIs Tryd.prog w "cnc/vars.numbers" .i64 tabNums) :
    Calls Tryd.prog 7 #[.slice a L.length cp, .slice a1 L1.length cp1, .int .i64 N, .int .i64 U] w fun e w' => e = .returned (.bool true) ∧ Below w.heap.size w w' := by
  have hw0 := tab_pos ht
  have HT := Lib.hid ht
  have KF := few_any a L cp w hA hl
  have KF1 := few_any a1 L1 cp1 w hA1 hl1
  generalize fewB L = fb at KF
  generalize fewB L1 = fb1 at KF1
  have KF := Lib.hid KF
  have KF1 := Lib.hid KF1
  by_cases hf : fb = true ∧ fb1 = true
  case neg =>
    have KA := Lib.hid (awake_true w ht)
    have hcs : fb = false ∨ (fb = true ∧ fb1 = false) := by
      cases fb <;> cases fb1 <;> simp at hf ⊢
    clear hf
    rcases hcs with rfl | ⟨rfl, rfl⟩
    · go_enter Tryd.func7, Tryd.ntmps7
      go_wp2_with fail
      refine KF.out.mono ?_
      rintro e w' ⟨rfl, rfl⟩
      go_wp2_with fail
      refine KA.out.mono ?_
      rintro e w1 ⟨rfl, b1⟩
      go_wp2_with fail
      go_ret
      exact ⟨rfl, b1⟩
    · go_enter Tryd.func7, Tryd.ntmps7
      go_wp2_with fail
      refine KF.out.mono ?_
      rintro e w' ⟨rfl, rfl⟩
      go_wp2_with fail
      refine KF1.out.mono ?_
      rintro e w' ⟨rfl, rfl⟩
      go_wp2_with fail
      refine KA.out.mono ?_
      rintro e w1 ⟨rfl, b1⟩
      go_wp2_with fail
      go_ret
      exact ⟨rfl, b1⟩
  obtain ⟨rfl, rfl⟩ := hf
  have KN := Lib.hid (new_any w)
  go_enter Tryd.func7, Tryd.ntmps7
  go_wp2_with fail
  refine KF.out.mono ?_
  rintro e w' ⟨rfl, rfl⟩
  go_wp2_with fail
  refine KF1.out.mono ?_
  rintro e w' ⟨rfl, rfl⟩
  go_wp2_with fail
  refine KN.out.mono ?_
  rintro e w1 ⟨s, g, rfl, h1, b1⟩
  have KA := Lib.hid (awake_true w1 (tab_below ht b1 hw0))
  have H1 := Lib.hid h1
  clear h1 KN KF KF1
  go_wp2_with fail
  refine KA.out.mono ?_
  rintro e w2 ⟨rfl, b2'⟩
  have b2 := b1.trans (b2'.mono b1.size)
  have H2 : Hid (SAt w2 w.heap.size s g 1 ⟨1, List.replicate 33 0, fun _ => 0⟩) := Lib.hid (StAt.below H1.out b2')
  have KR := Lib.hid (rnew_any w2)
  clear b2' KA H1 b1
  go_wp2_with fail
  refine KR.out.mono ?_
  rintro e w3 ⟨r, q, rfl, k3, b3'⟩
  have b3 := b2.trans (b3'.mono b2.size)
  have H3 := Lib.hid (H2.out.below b3')
  have K3 : Hid (TAt w3 w.heap.size r q 1 ⟨1, List.replicate 33 0, fun _ => 0⟩) := Lib.hid (TAt.lower k3 b2.size)
  clear b3' H2 KR b2 k3
  go_wp2_with fail
  go_loopw [9, 11] (fun s9 s11 wr => ∃ (i s g c q c2 : Nat) (x : SD), i ≤ L.length ∧ s11 = .int .i64 i ∧ s9 = .pointer (some ⟨s, 0, none⟩) ∧ SAt wr w.heap.size s g c x ∧ TAt wr w.heap.size r q c2 x ∧ Below w.heap.size w wr)
    (fun _ s11 _ => L.length - (intOf s11).toNat)
  case atStart => exact ⟨0, s, g, 1, q, 1, _, by omega, rfl, rfl, H3.out, K3.out, b3⟩
  case round =>
    clear H3 K3 b3
    obtain ⟨i, s, g, c, q, c2, x, hi, rfl, rfl, h, k, bel⟩ := hrel
    by_cases hlt : i < L.length
    · obtain ⟨d, b, o, hd, rfl, hc, hAd, hn⟩ := act_at hA bel hlt
      have i0 : (0 : Int) ≤ (i : Int) := by omega
      have i1 : (i : Int) < (L.length : Int) := by omega
      have d1 : decide (i < L.length) = true := by simp; omega
      have KS := Lib.hid (step_any d x x wr h k hAd hn (tab_below ht bel hw0) hw0 (.inl rfl))
      have c0 := hc 0 _ rfl
      have c1 := hc 1 _ rfl
      have z2 := hc 2 _ rfl
      have c3 := hc 3 _ rfl
      have c4 := hc 4 _ rfl
      have hbd := h.bounds
      have kbd := k.bounds
      rw [Nat.add_zero] at c0
      simp only [ActD.cells] at KS
      clear hc h k hAd hA ht hd hA1
      go_wp2_with fail
      refine KS.out.mono ?_
      rintro e w5 ⟨s', g', c', q', c2', rfl, h', k', _, hf, _⟩
      have b5 := bel.trans (hf.below (by omega) (by omega) (by omega) (by omega) (by omega))
      have H5 := Lib.hid h'
      have K5 := Lib.hid k'
      clear h' k' hf bel KS c0 c1 z2 c3 c4
      go_wp2_with fail
      go_roundw
      case rel => exact ⟨i + 1, s', g', c', q', c2', _, by omega, by go_num, rfl, H5.out, K5.out, b5⟩
      case measure => simp [intOf]; omega
    · have d1 : decide (i < L.length) = false := by simp; omega
      obtain ⟨n, V, C⟩ := x
      have hbd := h.bounds
      have kbd := k.bounds
      have hap := h.apart k
      have hn1 : 1 ≤ n := h.2.2.2.2.1
      have hn9 : n ≤ 9 := h.2.2.2.2.2
      have hVl : V.length = n * 33 := StAt.len h
      have H := Lib.hid h
      have K := Lib.hid k
      clear h k hA
      go_wp2_with (first
        | ((with_reducible refine go_built 50 _ (lvC fun _ => 0) (by with_unfolding_all exact zero33) ?_))
        | ((with_reducible refine go_store_row 50 (.tmp 14) (.tmp 60) wr.heap.size (lvC fun _ => 0) 50 (lvC fun _ => 0) (by with_unfolding_all rfl) (by with_unfolding_all rfl) (by with_unfolding_all exact Blk.new wr _ _) (by rw [lvC_size]; with_unfolding_all exact info33) rfl (lvC_one _) ?_); refine on_told (fun w' => Below wr.heap.size wr w' ∧ Blk w' wr.heap.size 50 (lvC fun _ => 0)) ⟨below_row ((Below.refl wr.heap.size wr).alloc (Nat.le_refl _) _) (Nat.le_refl _) _, (Blk.new wr _ _).setRow _⟩ ?_; rintro wz ⟨bz, kz⟩))
      obtain ⟨wb, ewb⟩ : ∃ wb, wr.heap.size = wb := ⟨_, rfl⟩
      rw [ewb] at bz kz ⊢
      have hwb : s < wb ∧ g < wb ∧ r < wb ∧ q < wb ∧ w.heap.size ≤ wb := by have := bel.size; omega
      have H0 := Lib.hid (H.out.below (show Below wr.heap.size wr wz by rw [ewb]; exact bz))
      have K0 := Lib.hid (K.out.below (show Below wr.heap.size wr wz by rw [ewb]; exact bz))
      have bel0 : Below w.heap.size w wz := bel.trans (bz.mono hwb.2.2.2.2)
      clear ewb bz H K bel hbd kbd
      go_loopw [15] (fun s15 wr => ∃ i : Nat, i ≤ 33 ∧ s15 = .int .i64 i ∧ Blk wr wb 50 (lvC (wasF n V i)) ∧ SAt wr w.heap.size s g c ⟨n, V, C⟩ ∧ TAt wr w.heap.size r q c2 ⟨n, V, C⟩ ∧ Below w.heap.size w wr)
        (fun s15 _ => 33 - (intOf s15).toNat)
      case atStart => exact ⟨0, by omega, rfl, by rw [wasF_zero]; exact kz, H0.out, K0.out, bel0⟩
      case round =>
        clear kz H0 K0 bel0
        obtain ⟨j, hj, rfl, kb, h, k, bel⟩ := hrel
        have j0 : (0 : Int) ≤ (j : Int) := by omega
        by_cases hlt3 : j < 33
        · have j1 : (j : Int) < 33 := by omega
          have d3 : decide (j < 33) = true := by simp; omega
          have kc := kb.cell' j (lvC_at _ hlt3)
          have kf := kb.frozen j
          have GG := get_any ((j : Int) + 1) wr h
          rw [getV_local n V C hlt3] at GG
          have KG := Lib.hid GG
          have H := Lib.hid h
          have K := Lib.hid k
          have KB := Lib.hid kb
          have WS := Lib.hid (wasF_succ n V j)
          generalize V.getD ((n - 1) * 33 + j) 0 = zv at *
          clear GG h k kb
          go_wp2_with fail
          refine KG.out.mono ?_
          rintro e w' ⟨rfl, m, rfl⟩
          have fin1 := KB.out.drewN m |>.put j (.int .i64 zv)
          rw [lvC_set _ hlt3, WS.out] at fin1
          have hb1 := H.out.bounds
          have kb1 := K.out.bounds
          have f2 := H.out.kept (W' := (wr.drewN m).setCell ⟨wb, j, none⟩ (.int .i64 zv)) (Below.heap_setCell _ _ _ s (by show s ≠ wb; omega)) (Below.heap_setCell _ _ _ g (by show g ≠ wb; omega))
          have f3 := K.out.kept (W' := (wr.drewN m).setCell ⟨wb, j, none⟩ (.int .i64 zv)) (Below.heap_setCell _ _ _ r (by show r ≠ wb; omega)) (Below.heap_setCell _ _ _ q (by show q ≠ wb; omega))
          have f4 := (below_drewN bel m).setCell (p := ⟨wb, j, none⟩) hwb.2.2.2.2 (.int .i64 zv)
          have FF := Lib.hid (And.intro fin1 (And.intro f2 (And.intro f3 f4)))
          clear fin1 f2 f3 f4 KB H K KG WS
          go_wp2_with fail
          go_roundw
          case rel => exact ⟨j + 1, by omega, by go_num, FF.out.1, FF.out.2.1, FF.out.2.2.1, FF.out.2.2.2⟩
          case measure => simp [intOf]; omega
        · obtain rfl : j = 33 := by omega
          have d3 : decide (33 < 33) = false := rfl
          have KL := Lib.hid (level_any _ _ _ _ _ _ _ wr h)
          have PU := Lib.hid (push_any none [] 0 wr h (argsNil _) (by decide) (tab_below ht bel hw0) hw0)
          have hbd := h.bounds
          have kbd := k.bounds
          have H := Lib.hid h
          have K := Lib.hid k
          have KB := Lib.hid kb
          clear h k kb ht
          by_cases h9 : n = 9
          · subst h9
            go_wp2_with fail
            refine KL.out.mono ?_
            rintro e w' ⟨rfl, rfl⟩
            go_wp2_with fail
            refine PU.out.mono ?_
            rintro e w6 ⟨hp, _⟩
            obtain ⟨rfl, h6, ho⟩ := hp rfl
            have b6 := bel.trans (ho.below hbd.1 hbd.2.2.1 (by omega))
            clear h6 ho hp PU KL H K KB
            go_wp2_with fail
            go_ret
            exact ⟨rfl, b6⟩
          · have H9 := Lib.hid h9
            clear h9
            go_wp2_with fail
            refine KL.out.mono ?_
            rintro e w' ⟨rfl, rfl⟩
            go_wp2_with fail
            refine PU.out.mono ?_
            rintro e w6 ⟨_, hp⟩
            obtain ⟨he, ho, _, hst⟩ := hp (by have := H9.out; omega)
            subst he
            obtain ⟨g', cap', hg', h6⟩ := hst rfl
            have e0 : (scanA [] (fun _ => false) (fun _ => 0)).1 = 0 := rfl
            rw [e0]
            have b6 := bel.trans (ho.below hbd.1 hbd.2.2.1 (by omega))
            have hsz6 := ho.size
            have kwb : wb < wr.heap.size := KB.out.lt
            have K6 := Lib.hid (K.out.other H.out ho)
            have KB6 : Hid (Blk w6 wb 50 (lvC (wasF n V 33))) := Lib.hid ((ho.block wb kwb (by omega) (by omega)).trans KB.out)
            have H6 : Hid (SAt w6 w.heap.size s g' cap' ⟨n + 1, V ++ (List.range 33).map (scanA [] (fun _ => false) (fun _ => 0)).2, C⟩) := Lib.hid h6
            have TK := Lib.hid (new_take hVl ((List.range 33).map (scanA [] (fun _ => false) (fun _ => 0)).2))
            have hgw : g' ≠ wb := by rcases hg' with e | e <;> omega
            clear hp hst ho h6 PU KL H K KB e0 bel
            go_wp2_with fail
            go_loopw [17] (fun s17 wr => ∃ (i g c q c2 : Nat) (x y : SD), i ≤ L1.length ∧ s17 = .int .i64 i ∧ x.n = n + 1 ∧ x.V.take (n * 33) = V ∧ SAt wr w.heap.size s g c x ∧ TAt wr w.heap.size r q c2 y ∧ g ≠ wb ∧ Blk wr wb 50 (lvC (wasF n V 33)) ∧ Below w.heap.size w wr)
              (fun s17 _ => L1.length - (intOf s17).toNat)
            case atStart => exact ⟨0, g', cap', q, c2, _, ⟨n, V, C⟩, by omega, rfl, rfl, TK.out, H6.out, K6.out, hgw, KB6.out, b6⟩
            case round =>
              clear H6 K6 KB6 TK b6 hgw hg' hbd kbd hsz6 kwb hap
              obtain ⟨i, g, c, q, c2, x, y, hi, rfl, exn, exV, h, k, hgw, kb, bel⟩ := hrel
              have i0 : (0 : Int) ≤ (i : Int) := by omega
              by_cases hlt : i < L1.length
              · obtain ⟨d, b, o, hd, rfl, hc, hAd, hn⟩ := act_at hA1 bel hlt
                have i1 : (i : Int) < (L1.length : Int) := by omega
                have d1 : decide (i < L1.length) = true := by simp; omega
                have c0 := hc 0 _ rfl
                have c1 := hc 1 _ rfl
                have z2 := hc 2 _ rfl
                have c3 := hc 3 _ rfl
                have c4 := hc 4 _ rfl
                have hbd := h.bounds
                have kbd := k.bounds
                rw [Nat.add_zero] at c0
                have EX := Lib.hid (And.intro exn exV)
                have H := Lib.hid h
                have K := Lib.hid k
                have KB := Lib.hid kb
                by_cases h12 : d.what = 1 ∨ d.what = 2
                · have KS := Lib.hid (step_any d x y wr h k hAd hn (tab_below HT.out bel hw0) hw0 (.inr h12))
                  simp only [ActD.cells] at KS
                  have wv1 : (d.what == 1) = true ∨ ((d.what == 1) = false ∧ (d.what == 2) = true) := by rcases h12 with e | e <;> rw [e] <;> simp
                  have H12 := Lib.hid h12
                  clear hc hAd hd h k kb exn exV h12
                  rcases wv1 with t1 | ⟨t1, t2⟩
                  all_goals
                    go_wp2_with fail
                    refine KS.out.mono ?_
                    rintro e w7 ⟨s', g', c', q', c2', rfl, h', k', es, hf, _, eg, eq⟩
                    obtain rfl := es (by rcases H12.out with e | e <;> rw [e] <;> decide)
                    have ap := H.out.apart K.out
                    have KB7 := Lib.hid ((hf.block wb KB.out.lt (by omega) hgw.symm (by omega) (blk_ne KB.out (own_blk K.out.2.1).choose_spec (by decide))).trans KB.out)
                    have hg7 : g' ≠ wb := ne_new eg hgw KB.out.lt
                    have at1 := (after_take (d := d) (x := x) H12.out).1.trans EX.out.1
                    have at2 := (after_take (d := d) (x := x) H12.out).2
                    rw [EX.out.1, Nat.add_sub_cancel] at at2
                    have AT := Lib.hid (And.intro at1 (at2.trans EX.out.2))
                    have b7 := bel.trans (hf.below (by omega) (by omega) (by omega) (by omega) (by omega))
                    have H7 := Lib.hid h'
                    have K7 := Lib.hid k'
                    clear h' k' hf bel KS c0 c1 z2 c3 c4 at1 at2 KB H K t1
                    go_wp2_with fail
                    go_roundw
                    case rel => exact ⟨i + 1, g', c', q', c2', _, _, by omega, by go_num, AT.out.1, AT.out.2, H7.out, K7.out, hg7, KB7.out, b7⟩
                    case measure => simp [intOf]; omega
                · have t1 : (d.what == 1) = false := by simp; omega
                  have t2 : (d.what == 2) = false := by simp; omega
                  clear hc hAd hd h k kb exn exV h12
                  go_wp2_with fail
                  go_roundw
                  case rel => exact ⟨i + 1, g, c, q, c2, _, _, by omega, by go_num, EX.out.1, EX.out.2, H.out, K.out, hgw, KB.out, bel⟩
                  case measure => simp [intOf]; omega
              · have d1 : decide (i < L1.length) = false := by simp; omega
                obtain ⟨n', V', C'⟩ := x
                simp only at exn exV
                subst exn
                have hbd := h.bounds
                have kbd := k.bounds
                have hr1 := Int.emod_nonneg N (show (100 : Int) ≠ 0 by omega)
                have hr2 := Int.emod_lt_of_pos N (show (0 : Int) < 100 by omega)
                have KM := Lib.hid (fun W => mod_any N 100 W (by omega) (by omega))
                have KBt := Lib.hid (fun W => between_any U (-1000) 1000 W (by omega) (by omega) (by omega))
                have hu := between_bd U (-1000) 1000 (by omega)
                generalize N % 100 = kk at *
                generalize -1000 + U % (1000 - -1000 + 1) = uu at *
                have hk : 100 ≤ 100 + kk ∧ 100 + kk ≤ 199 := by omega
                have hok : okV uu := by unfold okV; omega
                have ST := set_any (100 + kk) uu wr h
                rw [setE_common hk hok, setVs_common hk, setC_common hk hok] at ST
                have KST := Lib.hid ST
                have gc5 := get_common (n := n) (V := V) (C := C') (v := uu) hk
                have hkk : 0 ≤ kk ∧ kk < 100 := ⟨hr1, hr2⟩
                generalize updC C' (100 + kk - 100).toNat uu = C5 at *
                have GC5 := Lib.hid gc5
                clear gc5
                have KB := Lib.hid kb
                have EV := Lib.hid exV
                clear ST h k kb exV hk hok hA1
                go_wp2_with fail
                refine (KM.out _).mono ?_
                rintro e w' ⟨rfl, rfl⟩
                go_wp2_with fail
                refine (KBt.out _).mono ?_
                rintro e w' ⟨rfl, rfl⟩
                go_wp2_with fail
                refine KST.out.mono ?_
                rintro e w6 ⟨rfl, h6, ho6⟩
                have PP := Lib.hid (pop_any w6 h6)
                have b6 := bel.trans (ho6.below hbd.1 hbd.2.2.1 (by omega))
                have KB6 := Lib.hid ((ho6.block wb KB.out.lt (by omega) hgw.symm).trans KB.out)
                have hsz6 := ho6.size
                clear h6 ho6 KST KM bel KB
                go_wp2_with fail
                refine PP.out.mono ?_
                rintro e w7 ⟨ho7, _, hp⟩
                obtain ⟨rfl, h7⟩ := hp (by omega)
                simp only [Nat.add_sub_cancel] at h7
                rw [EV.out] at h7
                have KL7 := Lib.hid (level_any _ _ _ _ _ _ _ w7 h7)
                have H7 := Lib.hid h7
                have b7 := b6.trans (ho7.below hbd.1 hbd.2.2.1 (by omega))
                have KB7 : Hid (Blk w7 wb 50 (lvC (wasF n V 33))) := Lib.hid ((ho7.block wb (Blk.lt (t := 50) KB6.out) (by omega) hgw.symm).trans KB6.out)
                clear hp h7 ho7 PP b6 KB6
                go_wp2_with fail
                refine KL7.out.mono ?_
                rintro e w' ⟨rfl, rfl⟩
                clear KL7
                go_wp2_with fail
                go_loopw [19] (fun s19 wr => ∃ i m : Nat, i ≤ 33 ∧ s19 = .int .i64 i ∧ w7.drewN m = wr) (fun s19 _ => 33 - (intOf s19).toNat)
                case atStart => exact ⟨0, 0, by omega, rfl, rfl⟩
                case round =>
                  obtain ⟨j, m, hj, rfl, rfl⟩ := hrel
                  have j0 : (0 : Int) ≤ (j : Int) := by omega
                  by_cases hlt3 : j < 33
                  · have j1 : (j : Int) < 33 := by omega
                    have d3 : decide (j < 33) = true := by simp; omega
                    have kc := KB7.out.cell' j (lvC_at _ hlt3)
                    rw [wasF_at n V hlt3] at kc
                    have GG := get_any ((j : Int) + 1) (w7.drewN m) (H7.out.drewN m)
                    rw [getV_local n V C5 hlt3] at GG
                    have KG := Lib.hid GG
                    generalize V.getD ((n - 1) * 33 + j) 0 = zv at *
                    clear GG
                    go_wp2_with fail
                    refine KG.out.mono ?_
                    rintro e w' ⟨rfl, m2, rfl⟩
                    rw [World.drewN_drewN]
                    clear KG
                    go_wp2_with fail
                    go_roundw
                    case rel => exact ⟨j + 1, _, by omega, by go_num, rfl⟩
                    case measure => simp [intOf]; omega
                  · obtain rfl : j = 33 := by omega
                    have d3 : decide (33 < 33) = false := rfl
                    have GG := get_any (100 + kk) (w7.drewN m) (H7.out.drewN m)
                    rw [GC5.out] at GG
                    have KG := Lib.hid GG
                    clear GG
                    go_wp2_with fail
                    refine KG.out.mono ?_
                    rintro e w' ⟨rfl, m2, rfl⟩
                    rw [World.drewN_drewN]
                    go_wp2_with fail
                    refine (KBt.out _).mono ?_
                    rintro e w' ⟨rfl, rfl⟩
                    go_wp2_with fail
                    go_ret
                    exact ⟨rfl, below_drewN b7 _⟩
theorem vlevels_leaf (a a1 : Option Addr) (len len1 cap cap1 : Nat) (N U : Int) (w : World) (ht : Lib.TabIs Tryd.prog w "cnc/vars.numbers" .i64 tabNums) (h : Leaf w (.tab actKs) (.slice a len cap)) (h1 : Leaf w (.tab actKs) (.slice a1 len1 cap1)) :
    Calls Tryd.prog 7 #[.slice a len cap, .slice a1 len1 cap1, .int .i64 N, .int .i64 U] w fun e w' => e = .returned (.bool true) ∧ Below w.heap.size w w' := by
  obtain ⟨L, rfl, hA, hn⟩ := acts_leaf h
  obtain ⟨L1, rfl, hA1, hn1⟩ := acts_leaf h1
  exact vlevels_walk a a1 L L1 cap cap1 N U w hA hn hA1 hn1 ht
end Go.Proofs.YtdbhkpkndfhcoaaDoor
