/-
  cncstage.Items: the walk.
-/
import Derived.Test.YtefdjdipbnnoaaaDoorStageE17
namespace Go.Proofs.YtefdjdipbnnoaaaDoor
open Go Go.RowKit
set_option linter.unusedVariables false
set_option linter.unusedSimpArgs false

theorem IJ.walk {B g n c A : Nat} {a : Option Addr} {z : Nat → Int} {p : V3} {v : Value} {l : List It} {w W : World} (h : IJ B g a n c z A p v l w W) (q : V3) : IJ B g a n c z A q v l w (((W.setCell ⟨A, 0, none⟩ (.int .i64 q.1)).setCell ⟨A, 1, none⟩ (.int .i64 q.2.1)).setCell ⟨A, 2, none⟩ (.int .i64 q.2.2)) := by
  have hb := h.base
  have g1 := grown_setCell (w := W) (p := ⟨A, 0, none⟩) (grown_refl W (some A)) (.inl rfl) (.int .i64 q.1)
  have g2 := grown_setCell (p := ⟨A, 1, none⟩) g1 (.inl rfl) (.int .i64 q.2.1)
  have g3 := grown_setCell (p := ⟨A, 2, none⟩) g2 (.inl rfl) (.int .i64 q.2.2)
  have i1 := h.gi.set (b := A) hb 0 (.int .i64 q.1)
  have i2 := i1.set (b := A) hb 1 (.int .i64 q.2.1)
  have i3 := i2.set (b := A) hb 2 (.int .i64 q.2.2)
  have a1 := Blk.put h.at' 0 (.int .i64 q.1)
  have a2 := Blk.put a1 1 (.int .i64 q.2.1)
  have a3 := Blk.put a2 2 (.int .i64 q.2.2)
  exact ⟨i3, a3, own_grown h.own g3 (by intro k hk; have := Option.some.inj hk; omega), hb⟩
theorem IJ.push {B g n c A : Nat} {a : Option Addr} {z : Nat → Int} {p : V3} {v v' : Value} {l m : List It} {w W W' : World} {o : Obj} (h : IJ B g a n c z A p v l w W) (ho : W'.ownsRow (A + 1) 25 22 v' m.length (itsC m)) (hg : (W.alloc o).grownBy W' v.ownBlock) : IJ B g a n c z A p v' m w W' := by
  have JA := h.alloc o
  have hgl := JA.gi.lt
  have hold := JA.gi.old
  have hbase := JA.base
  have hsz := JA.gi.gr.size
  have hb : ∀ b, v.ownBlock = some b → A + 1 ≤ b := fun b e => (JA.own.lt b e).1
  refine ⟨⟨?_, ⟨hg.os.trans JA.gi.gr.os, hg.tape.trans JA.gi.gr.tape, hg.output.trans JA.gi.gr.output, Nat.le_trans hsz hg.size, fun b hb' hne => (hg.block b (by omega) (fun e => by have := hb b e.symm; omega)).trans (JA.gi.gr.block b hb' hne)⟩, hgl, hold⟩, JA.at'.grown hg (fun e => by have := hb A e.symm; omega), ho, hbase⟩
  obtain ⟨kk, hsk⟩ := JA.gi.src
  exact ⟨kk, hsk.keep (hg.block g hsk.lt (fun e => by have := hb g e.symm; omega)) (fun q hq => World.cell?_of_block (hg.block q.block (by omega) (fun e => by have := hb q.block e.symm; omega)))⟩
attribute [local go_sem] itA_0 itA_1 itA_2 itA_3 itA_4 itA_5 itA_6 itA_7 itA_8 itA_9 itA_10 itA_11 itA_12 itA_13 itA_14 itA_15 itA_16 itA_17 itA_18 itA_19 itA_20 itA_21
set_option maxRecDepth 100000 in
set_option maxHeartbeats 4000000 in
theorem sitems_any (w : World) (B g : Nat) (a : Option Addr) (n c : Nat) (z : Nat → Int) (hs : ∃ k, Src w B g a n c z k) :
    Calls Tryd.prog 19 #[.pointer (some ⟨g, 0, none⟩)] w (ItemsPost B g a n c z w) := by
  have J0 := Lib.hid (GI.refl hs)
  have hgl := (GI.refl hs).lt
  clear hs
  go_enter Tryd.func19, Tryd.ntmps19
  go_wp2_with fail
  refine (svec_any w B g a n c z 2000 J0.out.src (by omega) (by omega)).mono ?_
  rintro e w1 ⟨x0, y0, u0, _, _, _, rfl, G1⟩
  have sz1 := G1.size
  have J1 := Lib.hid (⟨(J0.out.trans G1).alloc _, Blk.new w1 _ _, World.ownsRow_nil _ _ _ _, sz1⟩ : IJ B g a n c z w1.heap.size (x0, y0, u0) (.slice none 0 0) [] w (w1.alloc (.cells #[.int .i64 x0, .int .i64 y0, .int .i64 u0] 23)))
  clear G1 J0
  go_wp2_with fail
  refine calls_told (fun W => IJ B g a n c z w1.heap.size (x0, y0, u0) (.slice none 0 0) [] w W) J1.out ?_
  clear J1
  rintro w2 J2
  refine (next_any w2 B g a n c z 9 J2.gi.src (by omega) (by omega)).mono ?_
  rintro e w3 ⟨r0, k3, hr0, hr1, rfl, s3, g3⟩
  have J3 := Lib.hid (J2.next (⟨⟨k3, s3⟩, g3, Nat.lt_of_lt_of_le hgl J2.gi.size, J2.gi.old⟩))
  clear J2 s3 g3
  obtain ⟨p0, hp0⟩ : ∃ p : V3, p = (x0, y0, u0) := ⟨_, rfl⟩
  rw [← hp0] at J3
  clear hp0
  obtain ⟨A, hA⟩ : ∃ A, w1.heap.size = A := ⟨_, rfl⟩
  rw [hA] at J3 sz1
  go_wp2_with fail
  try rw [hA]
  clear hA
  go_loopw [4, 5] (fun s4 s5 wr => ∃ (L : List It) (r : Int) (v4 : Value), v4 = s4 ∧ s5 = .int .i64 r ∧ 0 ≤ r ∧ (L.length : Int) + r ≤ 8 ∧ Good p0 L ∧ IJ B g a n c z A (walkAt p0 L) v4 L w wr)
    (fun _ s5 _ => (intOf s5).toNat)
  case atStart => exact ⟨[], r0, _, rfl, rfl, hr0, by simp; omega, trivial, J3.out⟩
  case round =>
    obtain ⟨L, r, v4, rfl, rfl, hr0, hlen, hgd, hJ⟩ := hrel
    have HJ := Lib.hid hJ
    have HGD := Lib.hid hgd
    have lA := hJ.at'.lt
    clear hJ hgd J3
    by_cases hpos : 0 < r
    · have d1 : decide (0 < r) = true := decide_eq_true hpos
      obtain ⟨p, hp⟩ : ∃ p, walkAt p0 L = p := ⟨_, rfl⟩
      have HP := Lib.hid hp
      rw [hp] at HJ
      clear hp
      have q0 : wr.cell? ⟨A, 0, none⟩ = some (.int .i64 p.1) := HJ.out.at'.cell' 0 rfl
      have q1 : wr.cell? ⟨A, 1, none⟩ = some (.int .i64 p.2.1) := HJ.out.at'.cell' 1 rfl
      have q2 : wr.cell? ⟨A, 2, none⟩ = some (.int .i64 p.2.2) := HJ.out.at'.cell' 2 rfl
      go_wp2_with fail
      refine (sitem_any wr B g a n c z p.1 p.2.1 p.2.2 HJ.out.gi.src).mono ?_
      rintro e w4 ⟨it, hmade, rfl, G4⟩
      have J4 := HJ.out.next G4
      have sz4 := G4.size
      have hv4 : v4.ownBlock ≠ some w4.heap.size := fun e => by have := (J4.own.lt _ e).2; omega
      obtain ⟨W5, hW5⟩ : ∃ W, (w4.alloc (.cells (itA zeroI) 25)).setRow w4.heap.size (itA it) = W := ⟨_, rfl⟩
      have A5 : ItAt W5 w4.heap.size it := by rw [← hW5]; exact ItAt.row (ItAt.new w4 zeroI) _
      have J5 : IJ B g a n c z A p v4 L w W5 := by rw [← hW5]; exact (J4.alloc _).row (by simp) (by omega) hv4 _
      have lt5 := A5.lt
      have HM := Lib.hid hmade
      have A5 := Lib.hid A5
      have J5 := Lib.hid J5
      clear J4 G4 q0 q1 q2 HJ hmade
      go_upto_region 7 with (first
        | ((with_reducible refine go_allocI ?_))
        | ((with_reducible refine go_storeI (.tmp 6) (.tmp 17) w4.heap.size it zeroI (by with_unfolding_all rfl) (by with_unfolding_all rfl) (ItAt.new _ _) ?_)))
      rw [hW5]
      clear hW5
      obtain ⟨H, hH⟩ : ∃ H, w4.heap.size = H := ⟨_, rfl⟩
      rw [hH] at A5 lt5 hv4 sz4 ⊢
      clear hH
      have KV := Lib.hid (fun W => rvalid_v it W)
      obtain ⟨vl, hvl⟩ : ∃ b, validI it = b := ⟨_, rfl⟩
      rw [hvl] at KV
      have HVL := Lib.hid hvl
      clear hvl
      go_wp2_with ((with_reducible refine go_loadI (.tmp 6) H it (by with_unfolding_all rfl) A5.out ?_))
      refine (KV.out _).mono ?_
      rintro e w6 ⟨rfl, b6⟩
      have A6 : ItAt w6 H it := A5.out.below b6
      have J6 := J5.out.below b6
      have lt6 := A6.lt
      clear A5 J5 b6
      cases vl
      · have J6 := Lib.hid J6
        have FJ := Lib.hid (show IJ B g a n c z A (walkAt p0 L) v4 L w w6 by rw [HP.out]; exact J6.out)
        go_wp2_with fail
        go_roundw
        case rel => exact ⟨L, r - 1, _, rfl, by rfl, by omega, by omega, HGD.out, FJ.out⟩
        case measure => simp [intOf]; omega
      have KM := Lib.hid (fun W => rmotionK_any it.kind W)
      obtain ⟨mt, hmt⟩ : ∃ b, motK it.kind = b := ⟨_, rfl⟩
      rw [hmt] at KM
      have HMT := Lib.hid hmt
      clear hmt
      have c0 := A6.c0
      have c5 := A6.c5
      have c6 := A6.c6
      have c7 := A6.c7
      have A6 := Lib.hid A6
      have J6 := Lib.hid J6
      have HGN := Lib.hid (show Good p0 (L ++ [it]) from HGD.out.snoc HVL.out HM.out.2.1 (fun hm => by
        have h6 : it.kind ≤ 6 := (of_decide_eq_true hm).2
        obtain ⟨m1, m2, m3⟩ := HM.out.2.2 h6
        rw [HP.out]
        unfold It.from3
        rw [m1, m2, m3]))
      go_wp2_with fail
      refine (KM.out _).mono ?_
      rintro e w' ⟨rfl, rfl⟩
      cases mt
      · have hw : walkAt p0 (L ++ [it]) = p := by rw [walkAt_append, HP.out]; show (if motK it.kind then it.to3 else p) = p; rw [HMT.out]; rfl
        have J7 := J6
        have A7 := A6
        clear J6 A6 c5 c6 c7 c0
        have hv7 : v4.ownBlock ≠ some A := fun e => by have := (J7.out.own.lt _ e).1; omega
        have szA := J7.out.base
        go_wp2_with (first
          | ((with_reducible refine go_loadI (.tmp 6) H it (by with_unfolding_all rfl) A7.out ?_))
          | ((with_reducible refine go_it1 (.tmp 27) it (by with_unfolding_all rfl) ?_))
          | ((with_reducible refine go_itapp (.tmp 26) (.tmp 28) L it _ (by with_unfolding_all rfl) (J7.out.own.alloc _) (by with_unfolding_all rfl) (ItAt.new _ _) (by omega) (by simp; omega) ?_); intro v' w10 hown10 hgrow; have FF := Lib.hid (IJ.push J7.out hown10 hgrow); clear hown10 hgrow))
        go_roundw
        case rel => exact ⟨L ++ [it], r - 1, _, rfl, by rfl, by omega, by rw [List.length_append]; simp; omega, HGN.out, by rw [hw]; exact FF.out⟩
        case measure => simp [intOf]; omega
      · have hw : walkAt p0 (L ++ [it]) = it.to3 := by rw [walkAt_append, HP.out]; show (if motK it.kind then it.to3 else p) = it.to3; rw [HMT.out]; rfl
        have f0 := J6.out.at'.frozen 0
        have f1 := J6.out.at'.frozen 1
        have f2 := J6.out.at'.frozen 2
        have p0' : w6.cell? ⟨A, 0, none⟩ = some (.int .i64 p.1) := J6.out.at'.cell' 0 rfl
        have p1' : w6.cell? ⟨A, 1, none⟩ = some (.int .i64 p.2.1) := J6.out.at'.cell' 1 rfl
        have p2' : w6.cell? ⟨A, 2, none⟩ = some (.int .i64 p.2.2) := J6.out.at'.cell' 2 rfl
        have J8 := J6.out.walk it.to3
        have A8 : ItAt (((w6.setCell ⟨A, 0, none⟩ (.int .i64 it.tx)).setCell ⟨A, 1, none⟩ (.int .i64 it.ty)).setCell ⟨A, 2, none⟩ (.int .i64 it.tz)) H it := ItAt.far (ItAt.far (ItAt.far A6.out (p := ⟨A, 0, none⟩) (by show H ≠ A; omega) (.int .i64 it.tx)) (p := ⟨A, 1, none⟩) (by show H ≠ A; omega) (.int .i64 it.ty)) (p := ⟨A, 2, none⟩) (by show H ≠ A; omega) (.int .i64 it.tz)
        obtain ⟨w7, hw7⟩ : ∃ W, ((w6.setCell ⟨A, 0, none⟩ (.int .i64 it.tx)).setCell ⟨A, 1, none⟩ (.int .i64 it.ty)).setCell ⟨A, 2, none⟩ (.int .i64 it.tz) = W := ⟨_, rfl⟩
        rw [hw7] at A8
        have J8 : IJ B g a n c z A it.to3 v4 L w w7 := by rw [← hw7]; exact J8
        have J7 := Lib.hid J8
        have A7 := Lib.hid A8
        clear J6 A6 J8 A8 c0
        go_upto_region 10 with fail
        try rw [hw7]
        clear f0 f1 f2 p0' p1' p2' c5 c6 c7 hw7
        have lt7 := A7.out.lt
        have hv7 : v4.ownBlock ≠ some A := fun e => by have := (J7.out.own.lt _ e).1; omega
        have szA := J7.out.base
        go_wp2_with (first
          | ((with_reducible refine go_loadI (.tmp 6) H it (by with_unfolding_all rfl) A7.out ?_))
          | ((with_reducible refine go_it1 (.tmp 27) it (by with_unfolding_all rfl) ?_))
          | ((with_reducible refine go_itapp (.tmp 26) (.tmp 28) L it _ (by with_unfolding_all rfl) (J7.out.own.alloc _) (by with_unfolding_all rfl) (ItAt.new _ _) (by omega) (by simp; omega) ?_); intro v' w10 hown10 hgrow; have FF := Lib.hid (IJ.push J7.out hown10 hgrow); clear hown10 hgrow))
        go_roundw
        case rel => exact ⟨L ++ [it], r - 1, _, rfl, by rfl, by omega, by rw [List.length_append]; simp; omega, HGN.out, by rw [hw]; exact FF.out⟩
        case measure => simp [intOf]; omega
    · have d1 : decide (0 < r) = false := decide_eq_false hpos
      have HO := Lib.hid (own_base HJ.out.own (show w.heap.size ≤ A + 1 by have := HJ.out.base; omega))
      have HG := Lib.hid HJ.out.gi
      have hl8 : L.length ≤ 8 := by omega
      obtain ⟨a5, c5, rfl, _, _⟩ := its_own HJ.out.own
      clear HJ
      go_wp2_with fail
      go_ret
      exact ⟨_, L, p0, rfl, HGD.out, hl8, HO.out, HG.out⟩
end Go.Proofs.YtefdjdipbnnoaaaDoor
