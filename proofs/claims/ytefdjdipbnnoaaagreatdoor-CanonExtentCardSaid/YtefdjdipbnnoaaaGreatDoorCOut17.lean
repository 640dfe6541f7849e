/-
  canon.Extent, canon.Outside: any items.
-/
import Derived.Test.YtefdjdipbnnoaaaGreatDoorExt17
import Derived.Test.YtefdjdipbnnoaaaGreatDoorValidB17
namespace Go.Proofs.YtefdjdipbnnoaaaGreatDoor
open Go Go.RowKit
set_option linter.unusedVariables false
set_option linter.unusedSimpArgs false

theorem valid_arcArg {i : It} (h : validI i = true) (hk : i.kind = 3) : arcArg i = true := by
  unfold validI at h
  rw [show motK i.kind = true by unfold motK; rw [hk]; rfl] at h
  unfold motionB at h
  simp only [if_true, Bool.and_eq_true, decide_eq_true_eq] at h
  have := h.2.2.2.2.2.2.1
  rw [if_pos hk] at this
  exact arcE_arg this
/-- canon.Extent. -/
def extC (i : It) : V3 × V3 := if motK i.kind = true ∧ validI i = true then extI i else ((0, 0, 0), (0, 0, 0))
attribute [local go_sem] itA_0 itA_1 itA_2 itA_3 itA_4 itA_5 itA_6 itA_7 itA_8 itA_9 itA_10 itA_11 itA_12 itA_13 itA_14 itA_15 itA_16 itA_17 itA_18 itA_19 itA_20 itA_21
set_option maxRecDepth 100000 in
set_option maxHeartbeats 4000000 in
theorem cext_any (i : It) (w : World) : Calls Tryz.prog 10 #[.agg (itA i)] w fun e w' => e = .returned (.tuple #[.agg (v3A (extC i).1), .agg (v3A (extC i).2)]) ∧ Below w.heap.size w w' := by
  obtain ⟨RL, RH, hR⟩ : ∃ a b, extC i = (a, b) := ⟨_, _, rfl⟩
  rw [hR]
  have HR := Lib.hid hR
  clear hR
  go_enter Tryz.func10, Tryz.ntmps10
  go_upto_region 1 with fail
  refine wp_told (fun W => ItAt W w.heap.size i ∧ Blk W (w.heap.size + 1) 23 #[.int .i64 0, .int .i64 0, .int .i64 0] ∧ Blk W (w.heap.size + 1 + 1) 23 #[.int .i64 0, .int .i64 0, .int .i64 0] ∧ Below w.heap.size w W)
    ⟨((ItAt.new w i).alloc _).alloc _, (blk_new1 w _ _ _).alloc _, blk_new2 w _ _ _ _, (by (repeat (first | exact Below.refl _ _ | refine Below.drew ?_ | refine Below.alloc ?_ (by first | exact Nat.le_refl _ | (simp; done) | (simp; omega)) _)))⟩ ?_
  rintro W1 ⟨h1, h2, h3, bel1⟩
  have c0 := h1.c0
  have HI := Lib.hid h1
  have HZ1 := Lib.hid h2
  have HZ2 := Lib.hid h3
  have BX := Lib.hid bel1
  clear h1 h2 h3 bel1
  obtain ⟨mt, hmt⟩ : ∃ b, motK i.kind = b := ⟨_, rfl⟩
  have KM := motionK_any i.kind W1
  rw [hmt] at KM
  have HMT := Lib.hid hmt
  have KM := Lib.hid KM
  clear hmt
  go_wp2_with fail
  refine KM.out.mono ?_
  rintro e w' ⟨rfl, rfl⟩
  clear c0 KM
  cases mt
  · have ER : RL = (0, 0, 0) ∧ RH = (0, 0, 0) := by
      have := HR.out
      unfold extC at this
      rw [if_neg (by rw [HMT.out]; simp)] at this
      injection this with e1 e2
      exact ⟨e1.symm, e2.symm⟩
    obtain ⟨rfl, rfl⟩ := ER
    have y0 := HZ1.out.frozen 0
    have y1 := HZ1.out.frozen 1
    have y2 := HZ1.out.frozen 2
    have x0 := HZ2.out.frozen 0
    have x1 := HZ2.out.frozen 1
    have x2 := HZ2.out.frozen 2
    have v0 : W1.cell? ⟨w.heap.size + 1, 0, none⟩ = some (.int .i64 0) := HZ1.out.cell' 0 rfl
    have v1 : W1.cell? ⟨w.heap.size + 1, 1, none⟩ = some (.int .i64 0) := HZ1.out.cell' 1 rfl
    have v2 : W1.cell? ⟨w.heap.size + 1, 2, none⟩ = some (.int .i64 0) := HZ1.out.cell' 2 rfl
    have u0 : W1.cell? ⟨w.heap.size + 1 + 1, 0, none⟩ = some (.int .i64 0) := HZ2.out.cell' 0 rfl
    have u1 : W1.cell? ⟨w.heap.size + 1 + 1, 1, none⟩ = some (.int .i64 0) := HZ2.out.cell' 1 rfl
    have u2 : W1.cell? ⟨w.heap.size + 1 + 1, 2, none⟩ = some (.int .i64 0) := HZ2.out.cell' 2 rfl
    go_wp2_with fail
    refine bodyPost_ret (results_cc rfl rfl (show Blk _ (w.heap.size + 1) 23 (v3A ((0, 0, 0) : V3)) from Blk.skip (Blk.skip (Blk.skip (((HZ1.out.put 0 _).put 1 _).put 2 _) (by simp) _) (by simp) _) (by simp) _) Tryz.underlying23 rfl (by kernel_rfl) rfl (show Blk _ (w.heap.size + 1 + 1) 23 (v3A ((0, 0, 0) : V3)) from (((Blk.skip (Blk.skip (Blk.skip HZ2.out (by simp) _) (by simp) _) (by simp) _).put 0 _).put 1 _).put 2 _) Tryz.underlying23 rfl (by kernel_rfl)) rfl ?_
    exact ⟨rfl, (((((BX.out.setCell (by show w.heap.size ≤ w.heap.size + 1; omega) _).setCell (by show w.heap.size ≤ w.heap.size + 1; omega) _).setCell (by show w.heap.size ≤ w.heap.size + 1; omega) _).setCell (by show w.heap.size ≤ w.heap.size + 1 + 1; omega) _).setCell (by show w.heap.size ≤ w.heap.size + 1 + 1; omega) _).setCell (by show w.heap.size ≤ w.heap.size + 1 + 1; omega) _⟩
  obtain ⟨vl, hvl⟩ : ∃ b, validI i = b := ⟨_, rfl⟩
  have KV := cvalid_any i W1
  rw [hvl] at KV
  have HVL := Lib.hid hvl
  have KV := Lib.hid KV
  clear hvl
  go_wp2_with (first | ((with_reducible refine gd_item 25 (.tmp 1) w.heap.size i (by with_unfolding_all rfl) rfl HI.out Tryz.underlying25 (by with_unfolding_all rfl) (by with_unfolding_all kernel_rfl) ?_)))
  refine KV.out.mono ?_
  rintro e W2 ⟨rfl, b2⟩
  have hi2 := HI.out.below b2
  have hz1 := HZ1.out.below b2 HZ1.out.lt
  have hz2 := HZ2.out.below b2 HZ2.out.lt
  have bx2 := BX.out.trans (b2.mono BX.out.size)
  clear HI HZ1 HZ2 BX b2 KV
  have HI := Lib.hid hi2
  have HZ1 := Lib.hid hz1
  have HZ2 := Lib.hid hz2
  have BX := Lib.hid bx2
  clear hi2 hz1 hz2 bx2
  cases vl
  · have ER : RL = (0, 0, 0) ∧ RH = (0, 0, 0) := by
      have := HR.out
      unfold extC at this
      rw [if_neg (by rw [HVL.out]; simp)] at this
      injection this with e1 e2
      exact ⟨e1.symm, e2.symm⟩
    obtain ⟨rfl, rfl⟩ := ER
    have y0 := HZ1.out.frozen 0
    have y1 := HZ1.out.frozen 1
    have y2 := HZ1.out.frozen 2
    have x0 := HZ2.out.frozen 0
    have x1 := HZ2.out.frozen 1
    have x2 := HZ2.out.frozen 2
    have v0 : W2.cell? ⟨w.heap.size + 1, 0, none⟩ = some (.int .i64 0) := HZ1.out.cell' 0 rfl
    have v1 : W2.cell? ⟨w.heap.size + 1, 1, none⟩ = some (.int .i64 0) := HZ1.out.cell' 1 rfl
    have v2 : W2.cell? ⟨w.heap.size + 1, 2, none⟩ = some (.int .i64 0) := HZ1.out.cell' 2 rfl
    have u0 : W2.cell? ⟨w.heap.size + 1 + 1, 0, none⟩ = some (.int .i64 0) := HZ2.out.cell' 0 rfl
    have u1 : W2.cell? ⟨w.heap.size + 1 + 1, 1, none⟩ = some (.int .i64 0) := HZ2.out.cell' 1 rfl
    have u2 : W2.cell? ⟨w.heap.size + 1 + 1, 2, none⟩ = some (.int .i64 0) := HZ2.out.cell' 2 rfl
    go_wp2_with fail
    refine bodyPost_ret (results_cc rfl rfl (show Blk _ (w.heap.size + 1) 23 (v3A ((0, 0, 0) : V3)) from Blk.skip (Blk.skip (Blk.skip (((HZ1.out.put 0 _).put 1 _).put 2 _) (by simp) _) (by simp) _) (by simp) _) Tryz.underlying23 rfl (by kernel_rfl) rfl (show Blk _ (w.heap.size + 1 + 1) 23 (v3A ((0, 0, 0) : V3)) from (((Blk.skip (Blk.skip (Blk.skip HZ2.out (by simp) _) (by simp) _) (by simp) _).put 0 _).put 1 _).put 2 _) Tryz.underlying23 rfl (by kernel_rfl)) rfl ?_
    exact ⟨rfl, (((((BX.out.setCell (by show w.heap.size ≤ w.heap.size + 1; omega) _).setCell (by show w.heap.size ≤ w.heap.size + 1; omega) _).setCell (by show w.heap.size ≤ w.heap.size + 1; omega) _).setCell (by show w.heap.size ≤ w.heap.size + 1 + 1; omega) _).setCell (by show w.heap.size ≤ w.heap.size + 1 + 1; omega) _).setCell (by show w.heap.size ≤ w.heap.size + 1 + 1; omega) _⟩
  · have ER : extI i = (RL, RH) := by
      have := HR.out
      unfold extC at this
      rwa [if_pos ⟨HMT.out, HVL.out⟩] at this
    have KE := aext_any i (valid_arcArg HVL.out) W2
    rw [ER] at KE
    have KE := Lib.hid KE
    clear ER HR
    go_wp2_with ((with_reducible refine go_loadI (.tmp 1) w.heap.size i (by with_unfolding_all rfl) HI.out ?_))
    refine KE.out.mono ?_
    rintro e W3 ⟨rfl, b3⟩
    have hz1 := HZ1.out.below b3 HZ1.out.lt
    have hz2 := HZ2.out.below b3 HZ2.out.lt
    have bx2 := BX.out.trans (b3.mono BX.out.size)
    clear HI HZ1 HZ2 BX b3 KE
    have HZ1 := Lib.hid hz1
    have HZ2 := Lib.hid hz2
    have BX := Lib.hid bx2
    clear hz1 hz2 bx2
    have y0 := HZ1.out.frozen 0
    have y1 := HZ1.out.frozen 1
    have y2 := HZ1.out.frozen 2
    have x0 := HZ2.out.frozen 0
    have x1 := HZ2.out.frozen 1
    have x2 := HZ2.out.frozen 2
    have v0 : W3.cell? ⟨w.heap.size + 1, 0, none⟩ = some (.int .i64 0) := HZ1.out.cell' 0 rfl
    have v1 : W3.cell? ⟨w.heap.size + 1, 1, none⟩ = some (.int .i64 0) := HZ1.out.cell' 1 rfl
    have v2 : W3.cell? ⟨w.heap.size + 1, 2, none⟩ = some (.int .i64 0) := HZ1.out.cell' 2 rfl
    have u0 : W3.cell? ⟨w.heap.size + 1 + 1, 0, none⟩ = some (.int .i64 0) := HZ2.out.cell' 0 rfl
    have u1 : W3.cell? ⟨w.heap.size + 1 + 1, 1, none⟩ = some (.int .i64 0) := HZ2.out.cell' 1 rfl
    have u2 : W3.cell? ⟨w.heap.size + 1 + 1, 2, none⟩ = some (.int .i64 0) := HZ2.out.cell' 2 rfl
    obtain ⟨l0, l1, l2⟩ := RL
    obtain ⟨g0, g1, g2⟩ := RH
    unfold v3A
    go_wp2_with fail
    refine bodyPost_ret (results_cc rfl rfl (show Blk _ (w.heap.size + 1) 23 (v3A ((l0, l1, l2) : V3)) from Blk.skip (Blk.skip (Blk.skip (((HZ1.out.put 0 _).put 1 _).put 2 _) (by simp) _) (by simp) _) (by simp) _) Tryz.underlying23 rfl (by kernel_rfl) rfl (show Blk _ (w.heap.size + 1 + 1) 23 (v3A ((g0, g1, g2) : V3)) from (((Blk.skip (Blk.skip (Blk.skip HZ2.out (by simp) _) (by simp) _) (by simp) _).put 0 _).put 1 _).put 2 _) Tryz.underlying23 rfl (by kernel_rfl)) rfl ?_
    exact ⟨rfl, (((((BX.out.setCell (by show w.heap.size ≤ w.heap.size + 1; omega) _).setCell (by show w.heap.size ≤ w.heap.size + 1; omega) _).setCell (by show w.heap.size ≤ w.heap.size + 1; omega) _).setCell (by show w.heap.size ≤ w.heap.size + 1 + 1; omega) _).setCell (by show w.heap.size ≤ w.heap.size + 1 + 1; omega) _).setCell (by show w.heap.size ≤ w.heap.size + 1 + 1; omega) _⟩
/-- canon.Outside. -/
def cmpO (e : V3 × V3) (lo hi : V3) : Bool := decide (e.1.1 < lo.1) || (decide (e.1.2.1 < lo.2.1) || (decide (e.1.2.2 < lo.2.2) || (decide (hi.1 < e.2.1) || (decide (hi.2.1 < e.2.2.1) || decide (hi.2.2 < e.2.2.2)))))
def outI (lo hi : V3) (x : It) : Bool := motK x.kind && (validI x && cmpO (extC x) lo hi)
def outL (lo hi : V3) : List It → Nat → Int
  | [], _ => -1
  | x :: l, k => if outI lo hi x = true then (k : Int) else outL lo hi l (k + 1)
theorem outL_drop {lo hi : V3} {l : List It} {k : Nat} {x : It} (h : l[k]? = some x) : outL lo hi (l.drop k) k = if outI lo hi x = true then (k : Int) else outL lo hi (l.drop (k + 1)) (k + 1) := by
  obtain ⟨hlt, e⟩ := List.getElem?_eq_some_iff.1 h
  rw [List.drop_eq_getElem_cons hlt, e]
  rfl
/-- The box in memory. -/
structure OS (w : World) (lo hi : V3) (W : World) : Prop where
  lo : Blk W w.heap.size 23 #[.int .i64 lo.1, .int .i64 lo.2.1, .int .i64 lo.2.2]
  hi : Blk W (w.heap.size + 1) 23 #[.int .i64 hi.1, .int .i64 hi.2.1, .int .i64 hi.2.2]
  bel : Below w.heap.size w W
theorem OS.below {w W W' : World} {lo hi : V3} (h : OS w lo hi W) (b : Below W.heap.size W W') : OS w lo hi W' := ⟨h.lo.below b h.lo.lt, h.hi.below b h.hi.lt, h.bel.trans (b.mono h.bel.size)⟩
theorem OS.alloc {w W : World} {lo hi : V3} (h : OS w lo hi W) (o : Obj) : OS w lo hi (W.alloc o) := ⟨h.lo.alloc _, h.hi.alloc _, h.bel.alloc h.bel.size _⟩
theorem OS.row {w W : World} {lo hi : V3} (h : OS w lo hi W) {g : Nat} (hg : w.heap.size + 1 < g) (cs : Array Value) : OS w lo hi (W.setRow g cs) := ⟨h.lo.rowFar (by omega) _, h.hi.rowFar (by omega) _, below_row h.bel (by omega) _⟩
set_option maxRecDepth 100000 in
set_option maxHeartbeats 4000000 in
theorem cout_any (a : Option Addr) (c : Nat) (l : List It) (lo hi : V3) (w : World) (h : ItsAt w a l) (hn : l.length ≤ 9223372036854775807) :
    Calls Tryz.prog 13 #[.slice a l.length c, .agg #[.int .i64 lo.1, .int .i64 lo.2.1, .int .i64 lo.2.2], .agg #[.int .i64 hi.1, .int .i64 hi.2.1, .int .i64 hi.2.2]] w fun e w' => e = .returned (.int .i64 (outL lo hi l 0)) ∧ Below w.heap.size w w' := by
  obtain ⟨n, hln⟩ : ∃ n, l.length = n := ⟨_, rfl⟩
  have HLN := Lib.hid hln
  have H := Lib.hid h
  have HG := Lib.hid (fun k (hk : k < n) => (⟨l[k]'(by omega), List.getElem?_eq_getElem _⟩ : ∃ x, l[k]? = some x))
  obtain ⟨res, hres⟩ : ∃ q, outL lo hi l 0 = q := ⟨_, rfl⟩
  have HRES := Lib.hid hres
  rw [hln] at hn ⊢
  rw [hres]
  clear h hln hres
  go_enter Tryz.func13, Tryz.ntmps13
  go_wp2_with fail
  go_loopw [13] (fun s13 wr => ∃ k : Nat, k ≤ n ∧ s13 = .int .i64 k ∧ outL lo hi (l.drop k) k = res ∧ OS w lo hi wr)
    (fun s13 _ => n - (intOf s13).toNat)
  case atStart => exact ⟨0, by omega, rfl, HRES.out, (Blk.new w _ _).alloc _, blk_new1 w _ _ _, (by (repeat (first | exact Below.refl _ _ | refine Below.drew ?_ | refine Below.alloc ?_ (by first | exact Nat.le_refl _ | (simp; done) | (simp; omega)) _)))⟩
  case round =>
    obtain ⟨k, hk, rfl, hv, hos⟩ := hrel
    have szo := hos.hi.lt
    by_cases hlt : k < n
    · obtain ⟨x, hx⟩ := HG.out k hlt
      have d0 : decide (k < n) = true := decide_eq_true hlt
      have hst := outL_drop (lo := lo) (hi := hi) hx
      rw [hv] at hst
      have HST := Lib.hid hst
      obtain ⟨b, o, rfl, _, hc⟩ := H.out.below hos.bel k x hx
      have HCX := Lib.hid hc
      have i1 : (0 : Int) ≤ (k : Int) := by omega
      have i2 : (k : Int) < (n : Int) := by omega
      obtain ⟨W5, hW5⟩ : ∃ W, (wr.alloc (.cells (itA zeroI) 25)).setRow wr.heap.size (itA x) = W := ⟨_, rfl⟩
      have A5 : ItAt W5 wr.heap.size x := by rw [← hW5]; exact ItAt.row (ItAt.new wr zeroI) _
      have O5 : OS w lo hi W5 := by rw [← hW5]; exact (hos.alloc _).row szo _
      have A5 := Lib.hid A5
      have O5 := Lib.hid O5
      clear hst hv hos hc hx
      go_upto_region 4 with (first
        | ((with_reducible refine go_loadM (.tmp 16) b (o + k * 22) x (by with_unfolding_all rfl) HCX.out ?_))
        | ((with_reducible refine go_allocI ?_))
        | ((with_reducible refine go_storeI (.tmp 8) (.tmp 17) wr.heap.size x zeroI (by with_unfolding_all rfl) (by with_unfolding_all rfl) (ItAt.new _ _) ?_)))
      try rw [hW5]
      clear hW5
      obtain ⟨G, hGe⟩ : ∃ G, wr.heap.size = G := ⟨_, rfl⟩
      rw [hGe] at A5 szo ⊢
      clear hGe
      have c0 := A5.out.c0
      obtain ⟨mt, hmt⟩ : ∃ b, motK x.kind = b := ⟨_, rfl⟩
      have KM := motionK_any x.kind W5
      rw [hmt] at KM
      have HMT := Lib.hid hmt
      have KM := Lib.hid KM
      clear hmt
      go_wp2_with fail
      refine KM.out.mono ?_
      rintro e w' ⟨rfl, rfl⟩
      clear KM c0
      cases mt
      · have HIN := Lib.hid (show outI lo hi x = false by unfold outI; rw [HMT.out]; rfl)
        go_wp2_with fail
        go_roundw
        case rel => exact ⟨k + 1, by omega, by go_num, by have := HST.out; rw [if_neg (by rw [HIN.out]; simp)] at this; exact this.symm, O5.out⟩
        case measure => simp [intOf] <;> omega
      obtain ⟨vl, hvl⟩ : ∃ b, validI x = b := ⟨_, rfl⟩
      have KV := cvalid_any x W5
      rw [hvl] at KV
      have HVL := Lib.hid hvl
      have KV := Lib.hid KV
      clear hvl
      go_wp2_with (first | ((with_reducible refine gd_item 25 (.tmp 8) G x (by with_unfolding_all rfl) rfl A5.out Tryz.underlying25 (by with_unfolding_all rfl) (by with_unfolding_all kernel_rfl) ?_)))
      refine KV.out.mono ?_
      rintro e W6 ⟨rfl, b6⟩
      have A6 := Lib.hid (A5.out.below b6)
      have O6 := Lib.hid (O5.out.below b6)
      clear b6 KV A5 O5
      cases vl
      · have HIN := Lib.hid (show outI lo hi x = false by unfold outI; rw [HMT.out, HVL.out]; rfl)
        go_wp2_with fail
        go_roundw
        case rel => exact ⟨k + 1, by omega, by go_num, by have := HST.out; rw [if_neg (by rw [HIN.out]; simp)] at this; exact this.symm, O6.out⟩
        case measure => simp [intOf] <;> omega
      obtain ⟨ax, ay, az, bx, bY, bz, hex⟩ : ∃ ax ay az bx bY bz, extC x = ((ax, ay, az), (bx, bY, bz)) := ⟨_, _, _, _, _, _, rfl⟩
      have KE := cext_any x W6
      rw [hex] at KE
      have HEX := Lib.hid hex
      have KE : Calls Tryz.prog 10 #[.agg (itA x)] W6 fun e w' => e = .returned (.tuple #[.agg #[.int .i64 ax, .int .i64 ay, .int .i64 az], .agg #[.int .i64 bx, .int .i64 bY, .int .i64 bz]]) ∧ Below W6.heap.size W6 w' := KE
      have KE := Lib.hid KE
      clear hex
      go_wp2_with ((with_reducible refine go_loadI (.tmp 8) G x (by with_unfolding_all rfl) A6.out ?_))
      refine KE.out.mono ?_
      rintro e W7 ⟨rfl, b7⟩
      have O7 := Lib.hid (O6.out.below b7)
      clear b7 KE A6 O6
      go_upto_region 6 with fail
      refine wp_told (fun W => OS w lo hi W ∧ Blk W W7.heap.size 23 #[.int .i64 ax, .int .i64 ay, .int .i64 az] ∧ Blk W (W7.heap.size + 1) 23 #[.int .i64 bx, .int .i64 bY, .int .i64 bz])
        ⟨(O7.out.alloc _).alloc _, (Blk.new W7 _ _).alloc _, blk_new1 W7 _ _ _⟩ ?_
      clear O7
      rintro W8 ⟨ho, he1, he2⟩
      obtain ⟨N, hNe⟩ : ∃ N, W7.heap.size = N := ⟨_, rfl⟩
      rw [hNe] at he1 he2 ⊢
      have l0 := ho.lo.cell' 0 rfl
      have l1 := ho.lo.cell' 1 rfl
      have l2 := ho.lo.cell' 2 rfl
      have h0 := ho.hi.cell' 0 rfl
      have h1 := ho.hi.cell' 1 rfl
      have h2 := ho.hi.cell' 2 rfl
      have a0 := he1.cell' 0 rfl
      have a1 := he1.cell' 1 rfl
      have a2 := he1.cell' 2 rfl
      have b0 := he2.cell' 0 rfl
      have b1 := he2.cell' 1 rfl
      have b2 := he2.cell' 2 rfl
      have HO := Lib.hid ho
      clear hNe ho he1 he2
      cases g1 : decide (ax < lo.1)
      rotate_left
      · have ER : res = (k : Int) := by rw [HST.out, if_pos]; unfold outI cmpO; rw [HMT.out, HVL.out, HEX.out]; simp only [g1]; rfl
        go_wp2_with fail
        go_ret
        exact ⟨by rw [ER]; rfl, HO.out.bel⟩
      cases g2 : decide (ay < lo.2.1)
      rotate_left
      · have ER : res = (k : Int) := by rw [HST.out, if_pos]; unfold outI cmpO; rw [HMT.out, HVL.out, HEX.out]; simp only [g1, g2]; rfl
        go_wp2_with fail
        go_ret
        exact ⟨by rw [ER]; rfl, HO.out.bel⟩
      cases g3 : decide (az < lo.2.2)
      rotate_left
      · have ER : res = (k : Int) := by rw [HST.out, if_pos]; unfold outI cmpO; rw [HMT.out, HVL.out, HEX.out]; simp only [g1, g2, g3]; rfl
        go_wp2_with fail
        go_ret
        exact ⟨by rw [ER]; rfl, HO.out.bel⟩
      cases g4 : decide (hi.1 < bx)
      rotate_left
      · have ER : res = (k : Int) := by rw [HST.out, if_pos]; unfold outI cmpO; rw [HMT.out, HVL.out, HEX.out]; simp only [g1, g2, g3, g4]; rfl
        go_wp2_with fail
        go_ret
        exact ⟨by rw [ER]; rfl, HO.out.bel⟩
      cases g5 : decide (hi.2.1 < bY)
      rotate_left
      · have ER : res = (k : Int) := by rw [HST.out, if_pos]; unfold outI cmpO; rw [HMT.out, HVL.out, HEX.out]; simp only [g1, g2, g3, g4, g5]; rfl
        go_wp2_with fail
        go_ret
        exact ⟨by rw [ER]; rfl, HO.out.bel⟩
      cases g6 : decide (hi.2.2 < bz)
      rotate_left
      · have ER : res = (k : Int) := by rw [HST.out, if_pos]; unfold outI cmpO; rw [HMT.out, HVL.out, HEX.out]; simp only [g1, g2, g3, g4, g5, g6]; rfl
        go_wp2_with fail
        go_ret
        exact ⟨by rw [ER]; rfl, HO.out.bel⟩
      have HIN := Lib.hid (show outI lo hi x = false by unfold outI cmpO; rw [HMT.out, HVL.out, HEX.out]; simp only [g1, g2, g3, g4, g5, g6]; rfl)
      go_wp2_with fail
      go_roundw
      case rel => exact ⟨k + 1, by omega, by go_num, by have := HST.out; rw [if_neg (by rw [HIN.out]; simp)] at this; exact this.symm, HO.out⟩
      case measure => simp [intOf] <;> omega
    · obtain rfl : k = n := by omega
      have d0 : decide (k < k) = false := by simp
      have ER : res = -1 := by rw [← hv, List.drop_eq_nil_of_le (by have := HLN.out; omega)]; rfl
      have HO := Lib.hid hos
      clear hv hos
      go_wp2_with fail
      go_ret
      exact ⟨by rw [ER]; rfl, HO.out.bel⟩
end Go.Proofs.YtefdjdipbnnoaaaGreatDoor
