/-
  cncref17.Check: any list.
-/
import Derived.Test.YtefdjdipbnnoaaaDoorCheck17
namespace Go.Proofs.YtefdjdipbnnoaaaDoor
open Go Go.RowKit
set_option linter.unusedVariables false
set_option linter.unusedSimpArgs false

theorem rvalid_v (i : It) (w : World) : Calls Tryd.prog 18 #[.agg (itA i)] w fun e w' => e = .returned (.bool (validI i)) ∧ Below w.heap.size w w' := by
  rw [← rval_eq]
  exact rvalid_any i w
attribute [local go_sem] itA_0 itA_1 itA_2 itA_3 itA_4 itA_5 itA_6 itA_7 itA_8 itA_9 itA_10 itA_11 itA_12 itA_13 itA_14 itA_15 itA_16 itA_17 itA_18 itA_19 itA_20 itA_21
set_option maxRecDepth 100000 in
set_option maxHeartbeats 4000000 in
theorem rcheckL_any (a : Option Addr) (c : Nat) (l : List It) (w : World) (h : ItsAt w a l) (hn : l.length ≤ 9223372036854775807) :
    Calls Tryd.prog 22 #[.slice a l.length c] w fun e w' => e = .returned (.tuple #[.int .i64 (checkL l).1, .int .i64 (checkL l).2]) ∧ Below w.heap.size w w' := by
  obtain ⟨n, hln⟩ : ∃ n, l.length = n := ⟨_, rfl⟩
  by_cases h32 : 20000 < n
  · have d1 : decide (20000 < n) = true := by simpa using h32
    have d1' : decide (20000 < (n : Int)) = true := by simp; omega
    have R : checkL l = (0, 10) := by unfold checkL; rw [hln, if_pos h32]
    rw [R, hln]
    clear hln hn h32 h R
    go_enter Tryd.func22, Tryd.ntmps22
    go_wp2
    go_ret2
    exact ⟨rfl, Below.refl _ _⟩
  · have d1 : decide (20000 < n) = false := by simpa using h32
    have d1' : decide (20000 < (n : Int)) = false := by simp; omega
    have R : checkL l = chk l 0 false false (0, 0, 0) := by unfold checkL; rw [hln, if_neg h32]
    have HG := Lib.hid (fun k (hk : k < n) => (⟨l[k]'(by omega), List.getElem?_eq_getElem _⟩ : ∃ x, l[k]? = some x))
    have HLN := Lib.hid hln
    have H := Lib.hid h
    rw [R, hln]
    obtain ⟨res, hres⟩ : ∃ r, chk l 0 false false (0, 0, 0) = r := ⟨_, rfl⟩
    rw [hres]
    have HRES := Lib.hid hres
    clear hln h R hres
    have hn2 : n ≤ 20000 := by omega
    go_enter Tryd.func22, Tryd.ntmps22
    go_wp2
    go_loopw [5, 6, 7] (fun s5 s6 s7 wr => ∃ (k : Nat) (en mv : Bool) (p : V3), k ≤ n ∧ s6 = .bool en ∧ s5 = .bool mv ∧ s7 = .int .i64 k ∧ chk (l.drop k) k en mv p = res ∧ Blk wr w.heap.size 23 (v3A p) ∧ Below w.heap.size w wr)
      (fun _ _ s7 _ => n - (intOf s7).toNat)
    case atStart => exact ⟨0, false, false, (0, 0, 0), by omega, rfl, rfl, rfl, HRES.out, Blk.new w _ _, by (repeat (first | exact Below.refl _ _ | refine Below.drew ?_ | refine Below.alloc ?_ (by first | exact Nat.le_refl _ | (simp; done) | (simp; omega)) _ | refine Below.setCell ?_ (by first | exact Nat.le_refl _ | (simp; done) | (simp; omega)) _))⟩
    case round =>
      obtain ⟨k, en, mv, p, hk, rfl, rfl, rfl, hv, hp, bel⟩ := hrel
      have hsz := bel.size
      have hlt0 := hp.lt
      by_cases hlt : k < n
      · obtain ⟨x, hx⟩ := HG.out k hlt
        have HX := Lib.hid hx
        have e1 : decide (k < n) = true := by simpa using hlt
        have hst := chk_drop hx en mv p
        rw [hv] at hst
        have HST := Lib.hid hst
        obtain ⟨b, o, rfl, hbw, hc⟩ := H.out k x hx
        have HC := Lib.hid (fun j v hv => (bel.cell (p := ⟨b, o + k * 22 + j, none⟩) hbw).trans (hc j v hv))
        have i1 : (0 : Int) ≤ (k : Int) := by omega
        have i2 : (k : Int) < (n : Int) := by omega
        have KM := Lib.hid (fun W => rmotionK_any x.kind W)
        have KV := Lib.hid (fun W => rvalid_v x W)
        obtain ⟨mt, hmt⟩ : ∃ b, motK x.kind = b := ⟨_, rfl⟩
        obtain ⟨vl, hvl⟩ : ∃ b, validI x = b := ⟨_, rfl⟩
        rw [hmt] at KM HST
        rw [hvl] at KV HST
        have hst := HST.out
        clear hmt hvl HST
        have HST := Lib.hid hst
        have P4 := Lib.hid hp
        have B4 := Lib.hid bel
        clear hst hv hp bel hc hx
        go_wp2_with (first
          | ((with_reducible refine go_loadM (.tmp 19) b (o + k * 22) x (by with_unfolding_all rfl) HC.out ?_)))
        refine (KV.out _).mono ?_
        rintro e w6 ⟨rfl, b6⟩
        have P6 := P4.out.below b6 P4.out.lt
        have B6 : Below w.heap.size w w6 := B4.out.trans (b6.mono B4.out.size)
        have HC6 := Lib.hid (fun j v hv => (b6.cell (p := ⟨b, o + k * 22 + j, none⟩) (by show b < wr.heap.size; omega)).trans (HC.out j v hv))
        clear P4 B4 b6 HC
        cases vl
        · have EE : res = (k, 1) := by rw [HST.out]; rfl
          have B6 := Lib.hid B6
          go_wp2_with fail
          go_ret2
          exact ⟨by first | rfl | (rw [EE]; rfl), B6.out⟩
        have HST2 := Lib.hid (HST.out.trans (if_neg (by simp)))
        clear HST
        let S : World → Prop := fun W => (∀ j v, (itA x).toList[j]? = some v → W.cell? ⟨b, o + k * 22 + j, none⟩ = some v) ∧ Blk W w.heap.size 23 (v3A p) ∧ Below w.heap.size w W
        have hs : S w6.drew := ⟨HC6.out, P6, B6.drew⟩
        have inst : Nonempty (At S) := ⟨⟨_, hs⟩⟩
        have HM := Lib.hid (fun q : At S => (KM.out q.w).mono (fun e w' h => (⟨h.1, h.2 ▸ q.ok⟩ : e = .returned (.bool mt) ∧ S w')))
        have q0 : ∀ q : At S, q.w.cell? ⟨b, o + k * 22, none⟩ = some (.int .i64 x.kind) := fun q => q.ok.1 0 _ rfl
        have q2 : ∀ q : At S, q.w.cell? ⟨b, o + k * 22 + 2, none⟩ = some (.int .i64 x.fx) := fun q => q.ok.1 2 _ rfl
        have q3 : ∀ q : At S, q.w.cell? ⟨b, o + k * 22 + 3, none⟩ = some (.int .i64 x.fy) := fun q => q.ok.1 3 _ rfl
        have q4 : ∀ q : At S, q.w.cell? ⟨b, o + k * 22 + 4, none⟩ = some (.int .i64 x.fz) := fun q => q.ok.1 4 _ rfl
        have r0 : ∀ q : At S, q.w.cell? ⟨w.heap.size, 0, none⟩ = some (.int .i64 p.1) := fun q => q.ok.2.1.cell' 0 rfl
        have r1 : ∀ q : At S, q.w.cell? ⟨w.heap.size, 1, none⟩ = some (.int .i64 p.2.1) := fun q => q.ok.2.1.cell' 1 rfl
        have r2 : ∀ q : At S, q.w.cell? ⟨w.heap.size, 2, none⟩ = some (.int .i64 p.2.2) := fun q => q.ok.2.1.cell' 2 rfl
        have HFIN : Hid (∀ q : At S, Blk q.w w.heap.size 23 (v3A p) ∧ Below w.heap.size w q.w) := Lib.hid (fun q : At S => q.ok.2)
        obtain ⟨ev, hev⟩ : ∃ b, eqV x.fx x.fy x.fz p.1 p.2.1 p.2.2 = b := ⟨_, rfl⟩
        have NR := fun W => neqv_run x.fx x.fy x.fz p.1 p.2.1 p.2.2 W
        rw [hev] at NR
        have NR := Lib.hid NR
        have HEV := Lib.hid hev
        clear P6 B6 HC6 hev
        clear_value S
        go_wp2_with fail
        cases en
        rotate_left
        · have EE : res = (k, 13) := by rw [HST2.out, if_pos (.inl rfl)]
          refine wp_region_at S (by kernel_rfl) (by kernel_rfl) hs ?_
          try simp only [List.append_eq, List.cons_append, List.nil_append]
          repeat (first
            | (go_big_quiet_want; (first
                | refine quiet_neq 23 _ (.tmp 40) (.tmp 41) rfl #[.int .i64 x.fx, .int .i64 x.fy, .int .i64 x.fz] #[.int .i64 p.1, .int .i64 p.2.1, .int .i64 p.2.2] (!ev) rfl rfl (by kernel_rfl) NR.out ?_); simp only [Act.put, List.setIfInBounds_toArray, List.set_cons_zero, List.set_cons_succ]; go_big_quiet_on)
            | go_big_quiet_step (first | with_reducible exact Calls.at_of (HM.out _) fun e w' h => ⟨h.1, h.2⟩))
          refine wpQuiet_nil ?_
          rintro _ ⟨q, rfl⟩
          obtain ⟨P8, B8⟩ := HFIN.out q
          clear q0 q2 q3 q4 r0 r1 r2
          generalize q.w = W8 at P8 B8 ⊢
          clear HM HFIN q inst hs
          go_wp2_with fail
          go_ret2
          exact ⟨by first | rfl | (rw [EE]; rfl), B8⟩
        cases mt
        · have HST3 := Lib.hid (HST2.out.trans (if_neg (by simp)))
          clear HST2
          refine wp_region_at S (by kernel_rfl) (by kernel_rfl) hs ?_
          try simp only [List.append_eq, List.cons_append, List.nil_append]
          repeat (first
            | (go_big_quiet_want; (first
                | refine quiet_neq 23 _ (.tmp 40) (.tmp 41) rfl #[.int .i64 x.fx, .int .i64 x.fy, .int .i64 x.fz] #[.int .i64 p.1, .int .i64 p.2.1, .int .i64 p.2.2] (!ev) rfl rfl (by kernel_rfl) NR.out ?_); simp only [Act.put, List.setIfInBounds_toArray, List.set_cons_zero, List.set_cons_succ]; go_big_quiet_on)
            | go_big_quiet_step (first | with_reducible exact Calls.at_of (HM.out _) fun e w' h => ⟨h.1, h.2⟩))
          refine wpQuiet_nil ?_
          rintro _ ⟨q, rfl⟩
          obtain ⟨P8, B8⟩ := HFIN.out q
          clear q0 q2 q3 q4 r0 r1 r2
          generalize q.w = W8 at P8 B8 ⊢
          clear HM HFIN q inst hs
          have hlt8 := P8.lt
          obtain ⟨b', o', eab, hb8, hc8⟩ := H.out.below B8 k x HX.out
          injection eab with eab
          injection eab with e1' e2'
          subst e1'
          subst e2'
          have c0 := hc8 0 _ rfl
          have c5 := hc8 5 _ rfl
          have c6 := hc8 6 _ rfl
          have c7 := hc8 7 _ rfl
          simp only [Nat.add_zero] at c0
          have nb : b ≠ w.heap.size := by omega
          have f0 := P8.frozen 0
          have f1 := P8.frozen 1
          have f2 := P8.frozen 2
          have g0 : W8.cell? ⟨w.heap.size, 0, none⟩ = some (.int .i64 p.1) := P8.cell' 0 rfl
          have g1 : W8.cell? ⟨w.heap.size, 1, none⟩ = some (.int .i64 p.2.1) := P8.cell' 1 rfl
          have g2 : W8.cell? ⟨w.heap.size, 2, none⟩ = some (.int .i64 p.2.2) := P8.cell' 2 rfl
          clear hc8
          have P8 := Lib.hid P8
          have B8 := Lib.hid B8
          go_wp2_with fail
          refine (KM.out _).mono ?_
          rintro e w' ⟨rfl, rfl⟩
          go_wp2_with fail
          go_roundw
          case rel => exact ⟨k + 1, (x.kind == 14), mv, p, by omega, rfl, rfl, by go_num, by have := HST3.out; simp only [Bool.or_false, if_false, Bool.false_eq_true] at this; exact this.symm, P8.out, B8.out⟩
          case measure => simp [intOf]; omega
        cases mv
        · have HST3 := Lib.hid (HST2.out.trans (if_neg (by simp)))
          clear HST2
          refine wp_region_at S (by kernel_rfl) (by kernel_rfl) hs ?_
          try simp only [List.append_eq, List.cons_append, List.nil_append]
          repeat (first
            | (go_big_quiet_want; (first
                | refine quiet_neq 23 _ (.tmp 40) (.tmp 41) rfl #[.int .i64 x.fx, .int .i64 x.fy, .int .i64 x.fz] #[.int .i64 p.1, .int .i64 p.2.1, .int .i64 p.2.2] (!ev) rfl rfl (by kernel_rfl) NR.out ?_); simp only [Act.put, List.setIfInBounds_toArray, List.set_cons_zero, List.set_cons_succ]; go_big_quiet_on)
            | go_big_quiet_step (first | with_reducible exact Calls.at_of (HM.out _) fun e w' h => ⟨h.1, h.2⟩))
          refine wpQuiet_nil ?_
          rintro _ ⟨q, rfl⟩
          obtain ⟨P8, B8⟩ := HFIN.out q
          clear q0 q2 q3 q4 r0 r1 r2
          generalize q.w = W8 at P8 B8 ⊢
          clear HM HFIN q inst hs
          have hlt8 := P8.lt
          obtain ⟨b', o', eab, hb8, hc8⟩ := H.out.below B8 k x HX.out
          injection eab with eab
          injection eab with e1' e2'
          subst e1'
          subst e2'
          have c0 := hc8 0 _ rfl
          have c5 := hc8 5 _ rfl
          have c6 := hc8 6 _ rfl
          have c7 := hc8 7 _ rfl
          simp only [Nat.add_zero] at c0
          have nb : b ≠ w.heap.size := by omega
          have f0 := P8.frozen 0
          have f1 := P8.frozen 1
          have f2 := P8.frozen 2
          have g0 : W8.cell? ⟨w.heap.size, 0, none⟩ = some (.int .i64 p.1) := P8.cell' 0 rfl
          have g1 : W8.cell? ⟨w.heap.size, 1, none⟩ = some (.int .i64 p.2.1) := P8.cell' 1 rfl
          have g2 : W8.cell? ⟨w.heap.size, 2, none⟩ = some (.int .i64 p.2.2) := P8.cell' 2 rfl
          clear hc8
          have P8 := Lib.hid P8
          have B8 := Lib.hid B8
          go_wp2_with fail
          refine (KM.out _).mono ?_
          rintro e w' ⟨rfl, rfl⟩
          have c0' : ((((W8.setCell ⟨w.heap.size, 0, none⟩ (.int .i64 x.tx)).setCell ⟨w.heap.size, 1, none⟩ (.int .i64 x.ty)).setCell ⟨w.heap.size, 2, none⟩ (.int .i64 x.tz))).cell? ⟨b, o + k * 22, none⟩ = some (.int .i64 x.kind) := by
            rw [World.cell?_setCell_other _ _ _ _ (fun e => nb (by have := congrArg Addr.block e; first | exact this | exact this.symm)), World.cell?_setCell_other _ _ _ _ (fun e => nb (by have := congrArg Addr.block e; first | exact this | exact this.symm)), World.cell?_setCell_other _ _ _ _ (fun e => nb (by have := congrArg Addr.block e; first | exact this | exact this.symm))]
            exact c0
          go_wp2_with fail
          go_roundw
          case rel => exact ⟨k + 1, (x.kind == 14), true, x.to3, by omega, rfl, rfl, by go_num, by have := HST3.out; simp only [Bool.or_true, if_true] at this; exact this.symm, ((P8.out.put 0 _).put 1 _).put 2 _, ((B8.out.setCell (Nat.le_refl _) _).setCell (Nat.le_refl _) _).setCell (Nat.le_refl _) _⟩
          case measure => simp [intOf]; omega
        cases ev
        · have hne : x.from3 ≠ p := fun h => of_decide_eq_false HEV.out (by rw [← h]; exact ⟨rfl, rfl, rfl⟩)
          have EE : res = (k, 13) := by rw [HST2.out, if_pos (.inr ⟨rfl, rfl, hne⟩)]
          refine wp_region_at S (by kernel_rfl) (by kernel_rfl) hs ?_
          try simp only [List.append_eq, List.cons_append, List.nil_append]
          repeat (first
            | (go_big_quiet_want; (first
                | refine quiet_neq 23 _ (.tmp 40) (.tmp 41) rfl #[.int .i64 x.fx, .int .i64 x.fy, .int .i64 x.fz] #[.int .i64 p.1, .int .i64 p.2.1, .int .i64 p.2.2] (!ev) rfl rfl (by kernel_rfl) NR.out ?_); simp only [Act.put, List.setIfInBounds_toArray, List.set_cons_zero, List.set_cons_succ]; go_big_quiet_on)
            | go_big_quiet_step (first | with_reducible exact Calls.at_of (HM.out _) fun e w' h => ⟨h.1, h.2⟩))
          refine wpQuiet_nil ?_
          rintro _ ⟨q, rfl⟩
          obtain ⟨P8, B8⟩ := HFIN.out q
          clear q0 q2 q3 q4 r0 r1 r2
          generalize q.w = W8 at P8 B8 ⊢
          clear HM HFIN q inst hs
          go_wp2_with fail
          go_ret2
          exact ⟨by first | rfl | (rw [EE]; rfl), B8⟩
        · have HST3 := Lib.hid (HST2.out.trans (if_neg (by
            rintro (h | ⟨_, _, h⟩)
            · cases h
            · obtain ⟨h3, h5, h6⟩ := of_decide_eq_true HEV.out
              apply h
              unfold It.from3
              rw [h3, h5, h6])))
          clear HST2
          refine wp_region_at S (by kernel_rfl) (by kernel_rfl) hs ?_
          try simp only [List.append_eq, List.cons_append, List.nil_append]
          repeat (first
            | (go_big_quiet_want; (first
                | refine quiet_neq 23 _ (.tmp 40) (.tmp 41) rfl #[.int .i64 x.fx, .int .i64 x.fy, .int .i64 x.fz] #[.int .i64 p.1, .int .i64 p.2.1, .int .i64 p.2.2] (!ev) rfl rfl (by kernel_rfl) NR.out ?_); simp only [Act.put, List.setIfInBounds_toArray, List.set_cons_zero, List.set_cons_succ]; go_big_quiet_on)
            | go_big_quiet_step (first | with_reducible exact Calls.at_of (HM.out _) fun e w' h => ⟨h.1, h.2⟩))
          refine wpQuiet_nil ?_
          rintro _ ⟨q, rfl⟩
          obtain ⟨P8, B8⟩ := HFIN.out q
          clear q0 q2 q3 q4 r0 r1 r2
          generalize q.w = W8 at P8 B8 ⊢
          clear HM HFIN q inst hs
          have hlt8 := P8.lt
          obtain ⟨b', o', eab, hb8, hc8⟩ := H.out.below B8 k x HX.out
          injection eab with eab
          injection eab with e1' e2'
          subst e1'
          subst e2'
          have c0 := hc8 0 _ rfl
          have c5 := hc8 5 _ rfl
          have c6 := hc8 6 _ rfl
          have c7 := hc8 7 _ rfl
          simp only [Nat.add_zero] at c0
          have nb : b ≠ w.heap.size := by omega
          have f0 := P8.frozen 0
          have f1 := P8.frozen 1
          have f2 := P8.frozen 2
          have g0 : W8.cell? ⟨w.heap.size, 0, none⟩ = some (.int .i64 p.1) := P8.cell' 0 rfl
          have g1 : W8.cell? ⟨w.heap.size, 1, none⟩ = some (.int .i64 p.2.1) := P8.cell' 1 rfl
          have g2 : W8.cell? ⟨w.heap.size, 2, none⟩ = some (.int .i64 p.2.2) := P8.cell' 2 rfl
          clear hc8
          have P8 := Lib.hid P8
          have B8 := Lib.hid B8
          go_wp2_with fail
          refine (KM.out _).mono ?_
          rintro e w' ⟨rfl, rfl⟩
          have c0' : ((((W8.setCell ⟨w.heap.size, 0, none⟩ (.int .i64 x.tx)).setCell ⟨w.heap.size, 1, none⟩ (.int .i64 x.ty)).setCell ⟨w.heap.size, 2, none⟩ (.int .i64 x.tz))).cell? ⟨b, o + k * 22, none⟩ = some (.int .i64 x.kind) := by
            rw [World.cell?_setCell_other _ _ _ _ (fun e => nb (by have := congrArg Addr.block e; first | exact this | exact this.symm)), World.cell?_setCell_other _ _ _ _ (fun e => nb (by have := congrArg Addr.block e; first | exact this | exact this.symm)), World.cell?_setCell_other _ _ _ _ (fun e => nb (by have := congrArg Addr.block e; first | exact this | exact this.symm))]
            exact c0
          go_wp2_with fail
          go_roundw
          case rel => exact ⟨k + 1, (x.kind == 14), true, x.to3, by omega, rfl, rfl, by go_num, by have := HST3.out; simp only [Bool.or_true, if_true] at this; exact this.symm, ((P8.out.put 0 _).put 1 _).put 2 _, ((B8.out.setCell (Nat.le_refl _) _).setCell (Nat.le_refl _) _).setCell (Nat.le_refl _) _⟩
          case measure => simp [intOf]; omega
      · obtain rfl : k = n := by omega
        have e1 : decide (k < k) = false := by simp
        have EE : res = (k, 0) := by
          rw [← hv, List.drop_eq_nil_of_le (by have := HLN.out; omega)]
          rfl
        have BEL := Lib.hid bel
        clear bel hv hp
        go_wp2_with fail
        go_ret2
        exact ⟨by first | rfl | (rw [EE]; rfl), BEL.out⟩
end Go.Proofs.YtefdjdipbnnoaaaDoor
