/-
  cnclaw17.CanonValid: the walk.
-/
import Derived.Test.YtefdjdipbnnoaaaDoorAwake17
import Derived.Test.YtefdjdipbnnoaaaDoorStageF17
import Derived.Test.YtefdjdipbnnoaaaDoorChanged17
import Derived.Test.YtefdjdipbnnoaaaDoorRCheck17
import Derived.Test.YtefdjdipbnnoaaaDoorTabS
namespace Go.Proofs.YtefdjdipbnnoaaaDoor
open Go Go.RowKit
set_option linter.unusedVariables false
set_option linter.unusedSimpArgs false

/-- What the operations of the region behind 'changed' leave. -/
def chG (base : Nat) (x y : Int) : Nat → Value → World → Prop
  | 0, v, _ | 3, v, _ | 4, v, _ | 7, v, _ => ∃ j, v = .agg (itA j)
  | 1, v, _ | 5, v, _ => v = .int .i64 x
  | 2, v, _ | 6, v, _ => v = .int .i64 y
  | 8, v, w | 9, v, w => ∃ b o, v = .pointer (some ⟨b, 0, none⟩) ∧ base ≤ b ∧ ItAt w b o
  | _, _, _ => True
/-- How a world of that region stands to the one before. -/
def chR (base : Nat) (w w' : World) : Prop := Below base w w' ∧ ∀ b o, base ≤ b → ItAt w b o → ∃ o', ItAt w' b o'
/-- What holds in every world of that region. -/
def chJ (w : World) (base H H2 : Nat) (raw it sd : It) (W : World) : Prop := ItAt W w.heap.size raw ∧ ItAt W H it ∧ ItAt W H2 sd ∧ Below w.heap.size w W ∧ base ≤ W.heap.size
theorem chR_refl (base : Nat) (W : World) : chR base W W := ⟨Below.refl _ _, fun b o _ h => ⟨o, h⟩⟩
theorem chR_below {base : Nat} {W W' : World} (hb : base ≤ W.heap.size) (b : Below W.heap.size W W') : chR base W W' := ⟨b.mono hb, fun b' o _ h => ⟨o, h.below b⟩⟩
theorem chJ_below {w W W' : World} {base H H2 : Nat} {raw it sd : It} (h : chJ w base H H2 raw it sd W) (b : Below W.heap.size W W') : chJ w base H H2 raw it sd W' :=
  ⟨h.1.below b, h.2.1.below b, h.2.2.1.below b, h.2.2.2.1.trans (b.mono h.2.2.2.1.size), Nat.le_trans h.2.2.2.2 b.size⟩
theorem chR_row {base b : Nat} {W : World} {o : It} (hb : base ≤ b) (hI : ItAt W b o) (i : It) : chR base W (W.setRow b (itA i)) :=
  ⟨below_row (Below.refl _ _) hb _, fun b' o' _ h => by
    by_cases e : b' = b
    · subst e; exact ⟨i, hI.row i⟩
    · exact ⟨o', h.rowFar e _⟩⟩
theorem chJ_row {w W : World} {base H H2 b : Nat} {raw it sd : It} (h : chJ w base H H2 raw it sd W) (h0 : w.heap.size < base) (h1 : H < base) (h2 : H2 < base) (hb : base ≤ b) (cs : Array Value) : chJ w base H H2 raw it sd (W.setRow b cs) :=
  ⟨h.1.rowFar (by omega) _, h.2.1.rowFar (by omega) _, h.2.2.1.rowFar (by omega) _, below_row h.2.2.2.1 (by omega) _, Nat.le_trans h.2.2.2.2 (below_row (Below.refl 0 W) (Nat.zero_le b) cs).size⟩
/-- What the last region keeps. -/
structure VS (w : World) (H H2 b1 b2 : Nat) (raw it sd x1 x2 : It) (W : World) : Prop where
  r : ItAt W w.heap.size raw
  i : ItAt W H it
  s : ItAt W H2 sd
  x : ItAt W b1 x1
  y : ItAt W b2 x2
  bel : Below w.heap.size w W
theorem VS.below {w W W' : World} {H H2 b1 b2 : Nat} {raw it sd x1 x2 : It} (h : VS w H H2 b1 b2 raw it sd x1 x2 W) (b : Below W.heap.size W W') : VS w H H2 b1 b2 raw it sd x1 x2 W' :=
  ⟨h.r.below b, h.i.below b, h.s.below b, h.x.below b, h.y.below b, h.bel.trans (b.mono h.bel.size)⟩
theorem item_load {W : World} {b : Nat} {i : It} (h : ItAt W b i) : (Instr.loadAt 25 (.pointer (some ⟨b, 0, none⟩))).run Tryd.prog W = .ok (.agg (itA i)) W := load_of (cs := (itA i).toList) h Tryd.underlying25 rfl (by kernel_rfl)
section
variable {a : Act} {w : World} {K : Act → World → Prop} {Q : Exit → Act → World → Prop} {dst : Option Tmp} {ty0 : TypeId} {pos : String} {after : Array Edge} {gd : Option (Nat × Bool)}
theorem wo_loadI (x : Operand) (g : Nat) (i : It) (hx : a.eval x = .pointer (some ⟨g, 0, none⟩)) (hI : ItAt w g i) (h : K (a.put dst (.agg (itA i))) w) : Oper.wp Tryd.prog ⟨dst, .load 25 x, ty0, pos, after, gd⟩ a w K Q := by
  have hl : (Instr.loadAt 25 (.pointer (some ⟨g, 0, none⟩))).run Tryd.prog w = .ok (.agg (itA i)) w := load_of (cs := (itA i).toList) hI Tryd.underlying25 rfl (by kernel_rfl)
  unfold Oper.wp execOp
  simp only [hx, Sem.run_bind, hl, Result.andThen_ok, Sem.run_pure]
  exact h
theorem wo_allocI (h : K (a.put dst (.pointer (some ⟨w.heap.size, 0, none⟩))) (w.alloc (.cells (itA zeroI) 25))) : Oper.wp Tryd.prog ⟨dst, .alloc 25, ty0, pos, after, gd⟩ a w K Q := by
  unfold Oper.wp execOp
  simp only [Sem.run_bind]
  have e : Sem.run Tryd.prog (Instr.alloc 25 true (.tuple #[])) w = .ok (.pointer (some ⟨w.heap.size, 0, none⟩)) (w.alloc (.cells (itA zeroI) 25)) := by
    go_simp
    rfl
  rw [e]
  exact h
end
attribute [local go_sem] itA_0 itA_1 itA_2 itA_3 itA_4 itA_5 itA_6 itA_7 itA_8 itA_9 itA_10 itA_11 itA_12 itA_13 itA_14 itA_15 itA_16 itA_17 itA_18 itA_19 itA_20 itA_21
set_option maxRecDepth 100000 in
set_option maxHeartbeats 4000000 in
theorem lvalid_walk (c0 : List Value) (a1 : Option Addr) (len1 cap1 : Nat) (z1 : List Int) (a2 a3 : Int) (w : World) (hE : Env w) (k0 : Leaves w itKinds c0) (w1 : IsRow .i64 w a1 len1 cap1 z1) (hn : len1 ≤ 9223372036854775807) :
    Calls Tryd.prog 3 #[.agg c0.toArray, .slice a1 len1 cap1, .int .i64 a2, .int .i64 a3] w fun e w' => e = .returned (.bool true) ∧ Below w.heap.size w w' := by
  obtain ⟨raw, rfl⟩ := it_leaves (show Leaves w itKinds c0 from k0)
  clear k0
  rw [show (itA raw).toList.toArray = itA raw from Array.toArray_toList]
  have HE0 := Lib.hid hE
  have hlow := hE.low
  obtain ⟨W0, hW0⟩ : ∃ W, w.alloc (.cells (itA raw) 25) = W := ⟨_, rfl⟩
  have B0 : Below w.heap.size w W0 := by rw [← hW0]; exact (Below.refl _ w).alloc (Nat.le_refl _) _
  have R0 : ItAt W0 w.heap.size raw := by rw [← hW0]; exact ItAt.new w raw
  have KL := Lib.hid (light_any W0 a1 len1 cap1)
  have KN := Lib.hid (tape_new W0 a1 len1 cap1 z1 (w1.below B0) hn)
  obtain ⟨z, hz⟩ : ∃ z, (fun i => z1.getD i 0) = z := ⟨_, rfl⟩
  rw [hz] at KN
  have ltR := R0.lt
  have sz0 := B0.size
  have B0 := Lib.hid B0
  have R0 := Lib.hid R0
  clear hE w1 hn hz
  go_enter Tryd.func3, Tryd.ntmps3
  go_wp2_with fail
  try rw [hW0]
  clear hW0
  refine KL.out.mono ?_
  rintro e w' ⟨rfl, rfl⟩
  by_cases h120 : len1 ≤ 120
  rotate_left
  · have d1 : decide (len1 ≤ 120) = false := decide_eq_false h120
    go_wp2_with fail
    refine (awake_true _ (HE0.out.below B0.out hlow)).mono ?_
    rintro e w1 ⟨rfl, b1⟩
    have B1 := Lib.hid (B0.out.trans (b1.mono sz0))
    clear b1
    go_wp2_with fail
    go_ret
    exact ⟨rfl, B1.out⟩
  have d1 : decide (len1 ≤ 120) = true := decide_eq_true h120
  go_wp2_with fail
  refine KN.out.mono ?_
  rintro e w1 ⟨rfl, hs1, b1⟩
  have sz1 := b1.size
  have B1 := Lib.hid b1
  have S1 := Lib.hid hs1
  have l1 := hs1.lt
  clear hs1 b1 KN KL
  go_wp2_with fail
  refine (svec_any w1 W0.heap.size W0.heap.size a1 len1 cap1 z 900 ⟨0, S1.out⟩ (by omega) (by omega)).mono ?_
  rintro e w2 ⟨x0, y0, u0, _, _, _, rfl, G2⟩
  have sz2 := G2.size
  have G2 := Lib.hid G2
  go_wp2_with fail
  refine (sitem_any w2 W0.heap.size W0.heap.size a1 len1 cap1 z x0 y0 u0 G2.out.src).mono ?_
  rintro e w3 ⟨it, _, rfl, G3⟩
  have G3 := Lib.hid (G2.out.trans G3)
  have sz3 := G3.out.size
  have B3 : Below W0.heap.size W0 w3 := B1.out.trans (below_of_grown G3.out.gr (by omega) (fun k e => by injection e; omega))
  have R3 : ItAt w3 w.heap.size raw := R0.out.below B3
  have B3 : Below w.heap.size w w3 := B0.out.trans (B3.mono sz0)
  clear G2 G3 S1 B1 B0 R0
  obtain ⟨W5, hW5⟩ : ∃ W, (w3.alloc (.cells (itA zeroI) 25)).setRow w3.heap.size (itA it) = W := ⟨_, rfl⟩
  have A5 : ItAt W5 w3.heap.size it := by rw [← hW5]; exact ItAt.row (ItAt.new w3 zeroI) _
  have R5 : ItAt W5 w.heap.size raw := by rw [← hW5]; exact ItAt.rowFar (ItAt.alloc R3 _) (by omega) _
  have B5 : Below w.heap.size w W5 := by rw [← hW5]; exact below_row (B3.alloc (by omega) _) (by omega) _
  have lt5 := A5.lt
  have A5 := Lib.hid A5
  have B5 := Lib.hid B5
  have R5 := Lib.hid R5
  clear B3 R3
  go_upto_region 5 with (first
    | ((with_reducible refine go_allocI ?_))
    | ((with_reducible refine go_storeI (.tmp 10) (.tmp 23) w3.heap.size it zeroI (by with_unfolding_all rfl) (by with_unfolding_all rfl) (ItAt.new _ _) ?_)))
  try rw [hW5]
  clear hW5
  obtain ⟨H, hH⟩ : ∃ H, w3.heap.size = H := ⟨_, rfl⟩
  have hHw : w.heap.size < H := by omega
  rw [hH] at A5 lt5 sz3
  try rw [hH]
  clear hH
  obtain ⟨W7, hW7⟩ : ∃ W, (W5.alloc (.cells (itA zeroI) 25)).setRow W5.heap.size (itA it) = W := ⟨_, rfl⟩
  have A7 : ItAt W7 H it := by rw [← hW7]; exact ItAt.rowFar (ItAt.alloc A5.out _) (by omega) _
  have R7 : ItAt W7 w.heap.size raw := by rw [← hW7]; exact ItAt.rowFar (ItAt.alloc R5.out _) (by omega) _
  have X7 : ItAt W7 W5.heap.size it := by rw [← hW7]; exact ItAt.row (ItAt.new W5 zeroI) _
  have B7 : Below w.heap.size w W7 := by rw [← hW7]; exact below_row (B5.out.alloc (by omega) _) (by omega) _
  have c0 := A7.c0
  have A7 := Lib.hid A7
  have R7 := Lib.hid R7
  have X7 := Lib.hid X7
  have B7 := Lib.hid B7
  go_upto_region 6 with (first
    | ((with_reducible refine go_loadI (.tmp 10) H it (by with_unfolding_all rfl) A5.out ?_))
    | ((with_reducible refine go_allocI ?_))
    | ((with_reducible refine go_storeI (.tmp 11) (.tmp 24) W5.heap.size it zeroI (by with_unfolding_all rfl) (by with_unfolding_all rfl) (ItAt.new _ _) ?_)))
  try rw [hW7]
  clear hW7 A5 B5 R5
  obtain ⟨H2, hH2⟩ : ∃ H, W5.heap.size = H := ⟨_, rfl⟩
  rw [hH2] at X7 lt5
  try rw [hH2]
  clear hH2
  by_cases hk : it.kind ≤ 3
  · have d2 : decide (it.kind ≤ 3) = true := decide_eq_true hk
    go_upto_region 7 with fail
    have ne1 : H ≠ H2 := by omega
    have ne2 : H2 ≠ H := by omega
    have q8 := A7.out.c8
    have f16 := Blk.frozen X7.out 16
    have f17 := Blk.frozen X7.out 17
    have f8 := Blk.frozen X7.out 8
    have r16 := X7.out.c16
    have r17 := X7.out.c17
    have r8 := X7.out.c8
    go_region_held3 (fun w' => w'.cell? ⟨H, 8, none⟩ = some (.int .i64 it.plane)) (go_keep) (fail)
    refine on_told (fun W' => ItAt W' H it ∧ ItAt W' w.heap.size raw ∧ (∃ sd, ItAt W' H2 sd) ∧ Below w.heap.size w W')
      ⟨(((A7.out.far (by exact ne1) _).far (by exact ne1) _).far (by exact ne1) _).drew,
       (((R7.out.far (by show w.heap.size ≠ H2; omega) _).far (by show w.heap.size ≠ H2; omega) _).far (by show w.heap.size ≠ H2; omega) _).drew,
       ⟨_, (((X7.out.s16 _).s17 _).s8 _).drew⟩,
       (((B7.out.setCell (by show w.heap.size ≤ H2; omega) _).setCell (by show w.heap.size ≤ H2; omega) _).setCell (by show w.heap.size ≤ H2; omega) _).drew⟩ ?_
    clear q8 f16 f17 f8 r16 r17 r8 A7 R7 X7 B7 c0
    rintro W8 ⟨A8, R8, ⟨sd, X8⟩, B8⟩
    have c0 := A8.c0
    have A8 := Lib.hid A8
    have R8 := Lib.hid R8
    have B8 := Lib.hid B8
    have f8 := Blk.frozen X8 8
    have r8 := X8.c8
    have X8 := Lib.hid X8
    by_cases hk3 : it.kind = 3
    · skip
      go_upto_region 10 with fail
      have q0 : w.heap.size < W8.heap.size := R8.out.lt
      have q1 : H < W8.heap.size := A8.out.lt
      have q2 : H2 < W8.heap.size := X8.out.lt
      refine wp_region_tabS 11 [(0, 37), (1, 38), (2, 39), (3, 40), (4, 41), (5, 42), (6, 43), (7, 44), (8, 12), (9, 13)]
        [[], [], [], [(0, 37), (1, 38), (2, 39)], [], [], [], [(4, 41), (5, 42), (6, 43)], [], [], [(8, 12), (3, 40)], []]
        [(10, .pointer (some ⟨H, 0, none⟩)), (11, .pointer (some ⟨H2, 0, none⟩)), (2, .int .i64 a2), (3, .int .i64 a3)]
        (chJ w W8.heap.size H H2 raw it sd) (chR W8.heap.size) (chG W8.heap.size a2 a3)
        (by kernel_rfl) (by kernel_rfl) (by kernel_rfl) (by kernel_rfl) ?_ ?_ ?_ ?_ ?_
      · intro p hp
        simp only [List.mem_cons, List.not_mem_nil, or_false] at hp
        rcases hp with rfl | rfl | rfl | rfl <;> rfl
      · intro i v w1 w2 hg hv
        unfold chG at hv ⊢
        split at hv
        all_goals first
          | exact hv
          | (obtain ⟨b, o, h1, h2, h3⟩ := hv; obtain ⟨o', h4⟩ := hg.2 b o h2 h3; exact ⟨b, o', h1, h2, h4⟩)
      · exact ⟨R8.out.drew, A8.out.drew, X8.out.drew, B8.out.drew, Nat.le_refl _⟩
      · simp only [EachOp]
        refine ⟨fun _ => ?_, fun _ => ?_, fun _ => ?_, fun _ => ?_, fun _ => ?_, fun _ => ?_, fun _ => ?_, fun _ => ?_, fun _ => ?_, fun _ => ?_, fun _ => ?_, fun h => absurd rfl h, trivial⟩
        all_goals intro a1 w1 hJ hA hd; simp only [List.getD_cons_zero, List.getD_cons_succ, List.mem_cons, List.not_mem_nil, or_false, forall_eq_or_imp, forall_eq] at hA hd; obtain ⟨k10, k11, k2, k3⟩ := hA
        · refine wo_loadI (.tmp 10) H it (by show a1.tmps.getD 10 undef = _; rw [Array.getD_eq_getD_getElem?]; exact k10) hJ.2.1 ?_
          exact ⟨_, rfl, chR_refl _ _, hJ, _, rfl⟩
        · refine BigFrame.wp_move _ rfl ⟨_, rfl, chR_refl _ _, hJ, ?_⟩; show a1.tmps.getD 2 undef = _; rw [Array.getD_eq_getD_getElem?]; exact k2
        · refine BigFrame.wp_move _ rfl ⟨_, rfl, chR_refl _ _, hJ, ?_⟩; show a1.tmps.getD 3 undef = _; rw [Array.getD_eq_getD_getElem?]; exact k3
        · obtain ⟨⟨j, h1⟩, h2, h3⟩ := hd
          have h1 : a1.tmps[37]?.getD undef = .agg (itA j) := h1
          have h2 : a1.tmps[38]?.getD undef = .int .i64 a2 := h2
          have h3 : a1.tmps[39]?.getD undef = .int .i64 a3 := h3
          clear k10 k11 k2 k3
          go_simp
          refine (changed_any j a2 a3 w1).mono ?_
          rintro e w2 ⟨j2, rfl, b2⟩
          exact ⟨_, rfl, chR_below hJ.2.2.2.2 b2, chJ_below hJ b2, j2, rfl⟩
        · refine wo_loadI (.tmp 11) H2 sd (by show a1.tmps.getD 11 undef = _; rw [Array.getD_eq_getD_getElem?]; exact k11) hJ.2.2.1 ?_
          exact ⟨_, rfl, chR_refl _ _, hJ, _, rfl⟩
        · refine BigFrame.wp_move _ rfl ⟨_, rfl, chR_refl _ _, hJ, ?_⟩; show a1.tmps.getD 2 undef = _; rw [Array.getD_eq_getD_getElem?]; exact k2
        · refine BigFrame.wp_move _ rfl ⟨_, rfl, chR_refl _ _, hJ, ?_⟩; show a1.tmps.getD 3 undef = _; rw [Array.getD_eq_getD_getElem?]; exact k3
        · obtain ⟨⟨j, h1⟩, h2, h3⟩ := hd
          have h1 : a1.tmps[41]?.getD undef = .agg (itA j) := h1
          have h2 : a1.tmps[42]?.getD undef = .int .i64 a2 := h2
          have h3 : a1.tmps[43]?.getD undef = .int .i64 a3 := h3
          clear k10 k11 k2 k3
          go_simp
          refine (changed_any j a2 a3 w1).mono ?_
          rintro e w2 ⟨j2, rfl, b2⟩
          exact ⟨_, rfl, chR_below hJ.2.2.2.2 b2, chJ_below hJ b2, j2, rfl⟩
        · refine wo_allocI ⟨_, rfl, chR_below hJ.2.2.2.2 ((Below.refl _ _).alloc (Nat.le_refl _) _), chJ_below hJ ((Below.refl _ _).alloc (Nat.le_refl _) _), w1.heap.size, zeroI, rfl, hJ.2.2.2.2, ItAt.new _ _⟩
        · refine wo_allocI ⟨_, rfl, chR_below hJ.2.2.2.2 ((Below.refl _ _).alloc (Nat.le_refl _) _), chJ_below hJ ((Below.refl _ _).alloc (Nat.le_refl _) _), w1.heap.size, zeroI, rfl, hJ.2.2.2.2, ItAt.new _ _⟩
        · obtain ⟨⟨b, o, h1, h2, h3⟩, j, h4⟩ := hd
          refine wo_storeI (.tmp 12) (.tmp 40) b j o (by show a1.tmps.getD 12 undef = _; rw [Array.getD_eq_getD_getElem?]; exact h1) (by show a1.tmps.getD 40 undef = _; rw [Array.getD_eq_getD_getElem?]; exact h4) h3 ?_
          exact ⟨_, rfl, chR_row h2 h3 _, chJ_row hJ q0 q1 q2 h2 _, trivial⟩
      intro vs w1 hJ hG
      obtain ⟨x1, e1⟩ := hG (7, 44) (by simp)
      obtain ⟨b1, o1, f1, f2, f3⟩ := hG (8, 12) (by simp)
      obtain ⟨b2, o2, g1, g2, g3⟩ := hG (9, 13) (by simp)
      clear hG
      refine ⟨?_⟩
      simp only at e1 f1 g1
      simp only [AtOp, List.foldl_cons, List.foldl_nil]
      rw [e1, f1, g1]
      simp only [Act.put, List.setIfInBounds_toArray, List.set_cons_zero, List.set_cons_succ]
      refine wo_storeI (.tmp 13) (.tmp 44) b2 x1 o2 rfl rfl g3 ?_
      obtain ⟨o3, F3⟩ := (chR_row g2 g3 x1).2 b1 o1 f2 f3
      have G3 := g3.row x1
      have J9 := chJ_row hJ q0 q1 q2 g2 (itA x1)
      obtain ⟨W9, hW9⟩ : ∃ W, w1.setRow b2 (itA x1) = W := ⟨_, rfl⟩
      rw [hW9] at F3 G3 J9
      rw [hW9]
      simp only [Act.put]
      clear hW9 f3 g3 hJ
      have J9 := Lib.hid J9
      have F3 := Lib.hid F3
      have G3 := Lib.hid G3
      clear A8 R8 X8 B8 f2 g2 e1 f1 g1
      obtain ⟨vm, hvm⟩ : ∃ b, motK a3 = b := ⟨_, rfl⟩
      obtain ⟨v1, hv1⟩ : ∃ b, validI raw = b := ⟨_, rfl⟩
      obtain ⟨v2, hv2⟩ : ∃ b, validI it = b := ⟨_, rfl⟩
      obtain ⟨v3, hv3⟩ : ∃ b, validI sd = b := ⟨_, rfl⟩
      obtain ⟨v4, hv4⟩ : ∃ b, validI o3 = b := ⟨_, rfl⟩
      obtain ⟨v5, hv5⟩ : ∃ b, validI x1 = b := ⟨_, rfl⟩
      let S : World → Prop := VS w H H2 b1 b2 raw it sd o3 x1
      have hs : S W9.drew := ⟨J9.out.1.drew, J9.out.2.1.drew, J9.out.2.2.1.drew, F3.out.drew, G3.out.drew, J9.out.2.2.2.1.drew⟩
      have inst : Nonempty (At S) := ⟨⟨_, hs⟩⟩
      have KA := Lib.hid (fun q : At S => (awake_true q.w (HE0.out.below q.ok.bel hlow)).mono (fun e w' h => (⟨h.1, q.ok.below h.2⟩ : e = .returned (.bool true) ∧ S w')))
      have KM := Lib.hid (fun q : At S => (motionK_any a3 q.w).mono (fun e w' h => (⟨by rw [h.1, hvm], h.2 ▸ q.ok⟩ : e = .returned (.bool vm) ∧ S w')))
      have KR := Lib.hid (fun q : At S => (rmotionK_any a3 q.w).mono (fun e w' h => (⟨by rw [h.1, hvm], h.2 ▸ q.ok⟩ : e = .returned (.bool vm) ∧ S w')))
      have C1 := Lib.hid (fun q : At S => (cvalid_any raw q.w).mono (fun e w' h => (⟨by rw [h.1, hv1], q.ok.below h.2⟩ : e = .returned (.bool v1) ∧ S w')))
      have C2 := Lib.hid (fun q : At S => (cvalid_any it q.w).mono (fun e w' h => (⟨by rw [h.1, hv2], q.ok.below h.2⟩ : e = .returned (.bool v2) ∧ S w')))
      have C3 := Lib.hid (fun q : At S => (cvalid_any sd q.w).mono (fun e w' h => (⟨by rw [h.1, hv3], q.ok.below h.2⟩ : e = .returned (.bool v3) ∧ S w')))
      have C4 := Lib.hid (fun q : At S => (cvalid_any o3 q.w).mono (fun e w' h => (⟨by rw [h.1, hv4], q.ok.below h.2⟩ : e = .returned (.bool v4) ∧ S w')))
      have C5 := Lib.hid (fun q : At S => (cvalid_any x1 q.w).mono (fun e w' h => (⟨by rw [h.1, hv5], q.ok.below h.2⟩ : e = .returned (.bool v5) ∧ S w')))
      have D1 := Lib.hid (fun q : At S => (rvalid_v raw q.w).mono (fun e w' h => (⟨by rw [h.1, hv1], q.ok.below h.2⟩ : e = .returned (.bool v1) ∧ S w')))
      have D2 := Lib.hid (fun q : At S => (rvalid_v it q.w).mono (fun e w' h => (⟨by rw [h.1, hv2], q.ok.below h.2⟩ : e = .returned (.bool v2) ∧ S w')))
      have D3 := Lib.hid (fun q : At S => (rvalid_v sd q.w).mono (fun e w' h => (⟨by rw [h.1, hv3], q.ok.below h.2⟩ : e = .returned (.bool v3) ∧ S w')))
      have D4 := Lib.hid (fun q : At S => (rvalid_v o3 q.w).mono (fun e w' h => (⟨by rw [h.1, hv4], q.ok.below h.2⟩ : e = .returned (.bool v4) ∧ S w')))
      have D5 := Lib.hid (fun q : At S => (rvalid_v x1 q.w).mono (fun e w' h => (⟨by rw [h.1, hv5], q.ok.below h.2⟩ : e = .returned (.bool v5) ∧ S w')))
      have L1 := Lib.hid (fun q : At S => item_load q.ok.r)
      have L2 := Lib.hid (fun q : At S => item_load q.ok.i)
      have L3 := Lib.hid (fun q : At S => item_load q.ok.s)
      have L4 := Lib.hid (fun q : At S => item_load q.ok.x)
      have L5 := Lib.hid (fun q : At S => item_load q.ok.y)
      have HFIN : Hid (∀ q : At S, Below w.heap.size w q.w) := Lib.hid (fun q : At S => q.ok.bel)
      clear hvm hv1 hv2 hv3 hv4 hv5 J9 F3 G3
      clear_value S
      go_upto_region 11 with fail
      refine wp_region_at S (by kernel_rfl) (by kernel_rfl) hs ?_
      try simp only [List.append_eq, List.cons_append, List.nil_append]
      repeat (first
        | (go_big_quiet_want; (first
            | refine quiet_load 25 (.tmp 4) rfl _ _ rfl L1.out ?_
            | refine quiet_load 25 (.tmp 10) rfl _ _ rfl L2.out ?_
            | refine quiet_load 25 (.tmp 11) rfl _ _ rfl L3.out ?_
            | refine quiet_load 25 (.tmp 12) rfl _ _ rfl L4.out ?_
            | refine quiet_load 25 (.tmp 13) rfl _ _ rfl L5.out ?_); simp only [Act.put, List.setIfInBounds_toArray, List.set_cons_zero, List.set_cons_succ]; go_big_quiet_on)
        | go_big_quiet_step (first | with_reducible exact Calls.at_of (KA.out _) fun e w' h => ⟨h.1, h.2⟩ | with_reducible exact Calls.at_of (KM.out _) fun e w' h => ⟨h.1, h.2⟩ | with_reducible exact Calls.at_of (KR.out _) fun e w' h => ⟨h.1, h.2⟩ | with_reducible exact Calls.at_of (C1.out _) fun e w' h => ⟨h.1, h.2⟩ | with_reducible exact Calls.at_of (C2.out _) fun e w' h => ⟨h.1, h.2⟩ | with_reducible exact Calls.at_of (C3.out _) fun e w' h => ⟨h.1, h.2⟩ | with_reducible exact Calls.at_of (C4.out _) fun e w' h => ⟨h.1, h.2⟩ | with_reducible exact Calls.at_of (C5.out _) fun e w' h => ⟨h.1, h.2⟩ | with_reducible exact Calls.at_of (D1.out _) fun e w' h => ⟨h.1, h.2⟩ | with_reducible exact Calls.at_of (D2.out _) fun e w' h => ⟨h.1, h.2⟩ | with_reducible exact Calls.at_of (D3.out _) fun e w' h => ⟨h.1, h.2⟩ | with_reducible exact Calls.at_of (D4.out _) fun e w' h => ⟨h.1, h.2⟩ | with_reducible exact Calls.at_of (D5.out _) fun e w' h => ⟨h.1, h.2⟩))
      refine wpQuiet_nil ?_
      rintro _ ⟨p, rfl⟩
      have BF := HFIN.out p
      generalize p.w = W12 at BF ⊢
      clear HFIN inst hs KA KM KR C1 C2 C3 C4 C5 D1 D2 D3 D4 D5 L1 L2 L3 L4 L5
      go_wp2_with fail
      go_ret
      exact ⟨rfl, BF⟩
    · go_upto_region 10 with fail
      refine wp_told (fun W' => ItAt W' H it ∧ ItAt W' w.heap.size raw ∧ (∃ sd, ItAt W' H2 sd) ∧ Below w.heap.size w W')
        ⟨A8.out.far (by exact ne1) _, R8.out.far (by show w.heap.size ≠ H2; omega) _, ⟨_, X8.out.s8 _⟩, B8.out.setCell (by show w.heap.size ≤ H2; omega) _⟩ ?_
      clear f8 r8 A8 R8 X8 B8 c0
      rintro W8 ⟨A8, R8, ⟨sd, X8⟩, B8⟩
      have A8 := Lib.hid A8
      have R8 := Lib.hid R8
      have B8 := Lib.hid B8
      have X8 := Lib.hid X8
      skip
      have q0 : w.heap.size < W8.heap.size := R8.out.lt
      have q1 : H < W8.heap.size := A8.out.lt
      have q2 : H2 < W8.heap.size := X8.out.lt
      refine wp_region_tabS 11 [(0, 37), (1, 38), (2, 39), (3, 40), (4, 41), (5, 42), (6, 43), (7, 44), (8, 12), (9, 13)]
        [[], [], [], [(0, 37), (1, 38), (2, 39)], [], [], [], [(4, 41), (5, 42), (6, 43)], [], [], [(8, 12), (3, 40)], []]
        [(10, .pointer (some ⟨H, 0, none⟩)), (11, .pointer (some ⟨H2, 0, none⟩)), (2, .int .i64 a2), (3, .int .i64 a3)]
        (chJ w W8.heap.size H H2 raw it sd) (chR W8.heap.size) (chG W8.heap.size a2 a3)
        (by kernel_rfl) (by kernel_rfl) (by kernel_rfl) (by kernel_rfl) ?_ ?_ ?_ ?_ ?_
      · intro p hp
        simp only [List.mem_cons, List.not_mem_nil, or_false] at hp
        rcases hp with rfl | rfl | rfl | rfl <;> rfl
      · intro i v w1 w2 hg hv
        unfold chG at hv ⊢
        split at hv
        all_goals first
          | exact hv
          | (obtain ⟨b, o, h1, h2, h3⟩ := hv; obtain ⟨o', h4⟩ := hg.2 b o h2 h3; exact ⟨b, o', h1, h2, h4⟩)
      · exact ⟨R8.out.drew, A8.out.drew, X8.out.drew, B8.out.drew, Nat.le_refl _⟩
      · simp only [EachOp]
        refine ⟨fun _ => ?_, fun _ => ?_, fun _ => ?_, fun _ => ?_, fun _ => ?_, fun _ => ?_, fun _ => ?_, fun _ => ?_, fun _ => ?_, fun _ => ?_, fun _ => ?_, fun h => absurd rfl h, trivial⟩
        all_goals intro a1 w1 hJ hA hd; simp only [List.getD_cons_zero, List.getD_cons_succ, List.mem_cons, List.not_mem_nil, or_false, forall_eq_or_imp, forall_eq] at hA hd; obtain ⟨k10, k11, k2, k3⟩ := hA
        · refine wo_loadI (.tmp 10) H it (by show a1.tmps.getD 10 undef = _; rw [Array.getD_eq_getD_getElem?]; exact k10) hJ.2.1 ?_
          exact ⟨_, rfl, chR_refl _ _, hJ, _, rfl⟩
        · refine BigFrame.wp_move _ rfl ⟨_, rfl, chR_refl _ _, hJ, ?_⟩; show a1.tmps.getD 2 undef = _; rw [Array.getD_eq_getD_getElem?]; exact k2
        · refine BigFrame.wp_move _ rfl ⟨_, rfl, chR_refl _ _, hJ, ?_⟩; show a1.tmps.getD 3 undef = _; rw [Array.getD_eq_getD_getElem?]; exact k3
        · obtain ⟨⟨j, h1⟩, h2, h3⟩ := hd
          have h1 : a1.tmps[37]?.getD undef = .agg (itA j) := h1
          have h2 : a1.tmps[38]?.getD undef = .int .i64 a2 := h2
          have h3 : a1.tmps[39]?.getD undef = .int .i64 a3 := h3
          clear k10 k11 k2 k3
          go_simp
          refine (changed_any j a2 a3 w1).mono ?_
          rintro e w2 ⟨j2, rfl, b2⟩
          exact ⟨_, rfl, chR_below hJ.2.2.2.2 b2, chJ_below hJ b2, j2, rfl⟩
        · refine wo_loadI (.tmp 11) H2 sd (by show a1.tmps.getD 11 undef = _; rw [Array.getD_eq_getD_getElem?]; exact k11) hJ.2.2.1 ?_
          exact ⟨_, rfl, chR_refl _ _, hJ, _, rfl⟩
        · refine BigFrame.wp_move _ rfl ⟨_, rfl, chR_refl _ _, hJ, ?_⟩; show a1.tmps.getD 2 undef = _; rw [Array.getD_eq_getD_getElem?]; exact k2
        · refine BigFrame.wp_move _ rfl ⟨_, rfl, chR_refl _ _, hJ, ?_⟩; show a1.tmps.getD 3 undef = _; rw [Array.getD_eq_getD_getElem?]; exact k3
        · obtain ⟨⟨j, h1⟩, h2, h3⟩ := hd
          have h1 : a1.tmps[41]?.getD undef = .agg (itA j) := h1
          have h2 : a1.tmps[42]?.getD undef = .int .i64 a2 := h2
          have h3 : a1.tmps[43]?.getD undef = .int .i64 a3 := h3
          clear k10 k11 k2 k3
          go_simp
          refine (changed_any j a2 a3 w1).mono ?_
          rintro e w2 ⟨j2, rfl, b2⟩
          exact ⟨_, rfl, chR_below hJ.2.2.2.2 b2, chJ_below hJ b2, j2, rfl⟩
        · refine wo_allocI ⟨_, rfl, chR_below hJ.2.2.2.2 ((Below.refl _ _).alloc (Nat.le_refl _) _), chJ_below hJ ((Below.refl _ _).alloc (Nat.le_refl _) _), w1.heap.size, zeroI, rfl, hJ.2.2.2.2, ItAt.new _ _⟩
        · refine wo_allocI ⟨_, rfl, chR_below hJ.2.2.2.2 ((Below.refl _ _).alloc (Nat.le_refl _) _), chJ_below hJ ((Below.refl _ _).alloc (Nat.le_refl _) _), w1.heap.size, zeroI, rfl, hJ.2.2.2.2, ItAt.new _ _⟩
        · obtain ⟨⟨b, o, h1, h2, h3⟩, j, h4⟩ := hd
          refine wo_storeI (.tmp 12) (.tmp 40) b j o (by show a1.tmps.getD 12 undef = _; rw [Array.getD_eq_getD_getElem?]; exact h1) (by show a1.tmps.getD 40 undef = _; rw [Array.getD_eq_getD_getElem?]; exact h4) h3 ?_
          exact ⟨_, rfl, chR_row h2 h3 _, chJ_row hJ q0 q1 q2 h2 _, trivial⟩
      intro vs w1 hJ hG
      obtain ⟨x1, e1⟩ := hG (7, 44) (by simp)
      obtain ⟨b1, o1, f1, f2, f3⟩ := hG (8, 12) (by simp)
      obtain ⟨b2, o2, g1, g2, g3⟩ := hG (9, 13) (by simp)
      clear hG
      refine ⟨?_⟩
      simp only at e1 f1 g1
      simp only [AtOp, List.foldl_cons, List.foldl_nil]
      rw [e1, f1, g1]
      simp only [Act.put, List.setIfInBounds_toArray, List.set_cons_zero, List.set_cons_succ]
      refine wo_storeI (.tmp 13) (.tmp 44) b2 x1 o2 rfl rfl g3 ?_
      obtain ⟨o3, F3⟩ := (chR_row g2 g3 x1).2 b1 o1 f2 f3
      have G3 := g3.row x1
      have J9 := chJ_row hJ q0 q1 q2 g2 (itA x1)
      obtain ⟨W9, hW9⟩ : ∃ W, w1.setRow b2 (itA x1) = W := ⟨_, rfl⟩
      rw [hW9] at F3 G3 J9
      rw [hW9]
      simp only [Act.put]
      clear hW9 f3 g3 hJ
      have J9 := Lib.hid J9
      have F3 := Lib.hid F3
      have G3 := Lib.hid G3
      clear A8 R8 X8 B8 f2 g2 e1 f1 g1
      obtain ⟨vm, hvm⟩ : ∃ b, motK a3 = b := ⟨_, rfl⟩
      obtain ⟨v1, hv1⟩ : ∃ b, validI raw = b := ⟨_, rfl⟩
      obtain ⟨v2, hv2⟩ : ∃ b, validI it = b := ⟨_, rfl⟩
      obtain ⟨v3, hv3⟩ : ∃ b, validI sd = b := ⟨_, rfl⟩
      obtain ⟨v4, hv4⟩ : ∃ b, validI o3 = b := ⟨_, rfl⟩
      obtain ⟨v5, hv5⟩ : ∃ b, validI x1 = b := ⟨_, rfl⟩
      let S : World → Prop := VS w H H2 b1 b2 raw it sd o3 x1
      have hs : S W9.drew := ⟨J9.out.1.drew, J9.out.2.1.drew, J9.out.2.2.1.drew, F3.out.drew, G3.out.drew, J9.out.2.2.2.1.drew⟩
      have inst : Nonempty (At S) := ⟨⟨_, hs⟩⟩
      have KA := Lib.hid (fun q : At S => (awake_true q.w (HE0.out.below q.ok.bel hlow)).mono (fun e w' h => (⟨h.1, q.ok.below h.2⟩ : e = .returned (.bool true) ∧ S w')))
      have KM := Lib.hid (fun q : At S => (motionK_any a3 q.w).mono (fun e w' h => (⟨by rw [h.1, hvm], h.2 ▸ q.ok⟩ : e = .returned (.bool vm) ∧ S w')))
      have KR := Lib.hid (fun q : At S => (rmotionK_any a3 q.w).mono (fun e w' h => (⟨by rw [h.1, hvm], h.2 ▸ q.ok⟩ : e = .returned (.bool vm) ∧ S w')))
      have C1 := Lib.hid (fun q : At S => (cvalid_any raw q.w).mono (fun e w' h => (⟨by rw [h.1, hv1], q.ok.below h.2⟩ : e = .returned (.bool v1) ∧ S w')))
      have C2 := Lib.hid (fun q : At S => (cvalid_any it q.w).mono (fun e w' h => (⟨by rw [h.1, hv2], q.ok.below h.2⟩ : e = .returned (.bool v2) ∧ S w')))
      have C3 := Lib.hid (fun q : At S => (cvalid_any sd q.w).mono (fun e w' h => (⟨by rw [h.1, hv3], q.ok.below h.2⟩ : e = .returned (.bool v3) ∧ S w')))
      have C4 := Lib.hid (fun q : At S => (cvalid_any o3 q.w).mono (fun e w' h => (⟨by rw [h.1, hv4], q.ok.below h.2⟩ : e = .returned (.bool v4) ∧ S w')))
      have C5 := Lib.hid (fun q : At S => (cvalid_any x1 q.w).mono (fun e w' h => (⟨by rw [h.1, hv5], q.ok.below h.2⟩ : e = .returned (.bool v5) ∧ S w')))
      have D1 := Lib.hid (fun q : At S => (rvalid_v raw q.w).mono (fun e w' h => (⟨by rw [h.1, hv1], q.ok.below h.2⟩ : e = .returned (.bool v1) ∧ S w')))
      have D2 := Lib.hid (fun q : At S => (rvalid_v it q.w).mono (fun e w' h => (⟨by rw [h.1, hv2], q.ok.below h.2⟩ : e = .returned (.bool v2) ∧ S w')))
      have D3 := Lib.hid (fun q : At S => (rvalid_v sd q.w).mono (fun e w' h => (⟨by rw [h.1, hv3], q.ok.below h.2⟩ : e = .returned (.bool v3) ∧ S w')))
      have D4 := Lib.hid (fun q : At S => (rvalid_v o3 q.w).mono (fun e w' h => (⟨by rw [h.1, hv4], q.ok.below h.2⟩ : e = .returned (.bool v4) ∧ S w')))
      have D5 := Lib.hid (fun q : At S => (rvalid_v x1 q.w).mono (fun e w' h => (⟨by rw [h.1, hv5], q.ok.below h.2⟩ : e = .returned (.bool v5) ∧ S w')))
      have L1 := Lib.hid (fun q : At S => item_load q.ok.r)
      have L2 := Lib.hid (fun q : At S => item_load q.ok.i)
      have L3 := Lib.hid (fun q : At S => item_load q.ok.s)
      have L4 := Lib.hid (fun q : At S => item_load q.ok.x)
      have L5 := Lib.hid (fun q : At S => item_load q.ok.y)
      have HFIN : Hid (∀ q : At S, Below w.heap.size w q.w) := Lib.hid (fun q : At S => q.ok.bel)
      clear hvm hv1 hv2 hv3 hv4 hv5 J9 F3 G3
      clear_value S
      go_upto_region 11 with fail
      refine wp_region_at S (by kernel_rfl) (by kernel_rfl) hs ?_
      try simp only [List.append_eq, List.cons_append, List.nil_append]
      repeat (first
        | (go_big_quiet_want; (first
            | refine quiet_load 25 (.tmp 4) rfl _ _ rfl L1.out ?_
            | refine quiet_load 25 (.tmp 10) rfl _ _ rfl L2.out ?_
            | refine quiet_load 25 (.tmp 11) rfl _ _ rfl L3.out ?_
            | refine quiet_load 25 (.tmp 12) rfl _ _ rfl L4.out ?_
            | refine quiet_load 25 (.tmp 13) rfl _ _ rfl L5.out ?_); simp only [Act.put, List.setIfInBounds_toArray, List.set_cons_zero, List.set_cons_succ]; go_big_quiet_on)
        | go_big_quiet_step (first | with_reducible exact Calls.at_of (KA.out _) fun e w' h => ⟨h.1, h.2⟩ | with_reducible exact Calls.at_of (KM.out _) fun e w' h => ⟨h.1, h.2⟩ | with_reducible exact Calls.at_of (KR.out _) fun e w' h => ⟨h.1, h.2⟩ | with_reducible exact Calls.at_of (C1.out _) fun e w' h => ⟨h.1, h.2⟩ | with_reducible exact Calls.at_of (C2.out _) fun e w' h => ⟨h.1, h.2⟩ | with_reducible exact Calls.at_of (C3.out _) fun e w' h => ⟨h.1, h.2⟩ | with_reducible exact Calls.at_of (C4.out _) fun e w' h => ⟨h.1, h.2⟩ | with_reducible exact Calls.at_of (C5.out _) fun e w' h => ⟨h.1, h.2⟩ | with_reducible exact Calls.at_of (D1.out _) fun e w' h => ⟨h.1, h.2⟩ | with_reducible exact Calls.at_of (D2.out _) fun e w' h => ⟨h.1, h.2⟩ | with_reducible exact Calls.at_of (D3.out _) fun e w' h => ⟨h.1, h.2⟩ | with_reducible exact Calls.at_of (D4.out _) fun e w' h => ⟨h.1, h.2⟩ | with_reducible exact Calls.at_of (D5.out _) fun e w' h => ⟨h.1, h.2⟩))
      refine wpQuiet_nil ?_
      rintro _ ⟨p, rfl⟩
      have BF := HFIN.out p
      generalize p.w = W12 at BF ⊢
      clear HFIN inst hs KA KM KR C1 C2 C3 C4 C5 D1 D2 D3 D4 D5 L1 L2 L3 L4 L5
      go_wp2_with fail
      go_ret
      exact ⟨rfl, BF⟩
  · have d2 : decide (it.kind ≤ 3) = false := decide_eq_false hk
    obtain ⟨sd, X8⟩ : ∃ sd, ItAt W7 H2 sd := ⟨_, X7.out⟩
    have X8 := Lib.hid X8
    have A8 := A7
    have R8 := R7
    have B8 := B7
    go_upto_region 10 with fail
    obtain ⟨W8, hW8⟩ : ∃ W, W7 = W := ⟨_, rfl⟩
    clear A7 R7 B7 X7
    rw [hW8] at A8 R8 X8 B8 c0 ⊢
    clear hW8
    skip
    have q0 : w.heap.size < W8.heap.size := R8.out.lt
    have q1 : H < W8.heap.size := A8.out.lt
    have q2 : H2 < W8.heap.size := X8.out.lt
    refine wp_region_tabS 11 [(0, 37), (1, 38), (2, 39), (3, 40), (4, 41), (5, 42), (6, 43), (7, 44), (8, 12), (9, 13)]
      [[], [], [], [(0, 37), (1, 38), (2, 39)], [], [], [], [(4, 41), (5, 42), (6, 43)], [], [], [(8, 12), (3, 40)], []]
      [(10, .pointer (some ⟨H, 0, none⟩)), (11, .pointer (some ⟨H2, 0, none⟩)), (2, .int .i64 a2), (3, .int .i64 a3)]
      (chJ w W8.heap.size H H2 raw it sd) (chR W8.heap.size) (chG W8.heap.size a2 a3)
      (by kernel_rfl) (by kernel_rfl) (by kernel_rfl) (by kernel_rfl) ?_ ?_ ?_ ?_ ?_
    · intro p hp
      simp only [List.mem_cons, List.not_mem_nil, or_false] at hp
      rcases hp with rfl | rfl | rfl | rfl <;> rfl
    · intro i v w1 w2 hg hv
      unfold chG at hv ⊢
      split at hv
      all_goals first
        | exact hv
        | (obtain ⟨b, o, h1, h2, h3⟩ := hv; obtain ⟨o', h4⟩ := hg.2 b o h2 h3; exact ⟨b, o', h1, h2, h4⟩)
    · exact ⟨R8.out.drew, A8.out.drew, X8.out.drew, B8.out.drew, Nat.le_refl _⟩
    · simp only [EachOp]
      refine ⟨fun _ => ?_, fun _ => ?_, fun _ => ?_, fun _ => ?_, fun _ => ?_, fun _ => ?_, fun _ => ?_, fun _ => ?_, fun _ => ?_, fun _ => ?_, fun _ => ?_, fun h => absurd rfl h, trivial⟩
      all_goals intro a1 w1 hJ hA hd; simp only [List.getD_cons_zero, List.getD_cons_succ, List.mem_cons, List.not_mem_nil, or_false, forall_eq_or_imp, forall_eq] at hA hd; obtain ⟨k10, k11, k2, k3⟩ := hA
      · refine wo_loadI (.tmp 10) H it (by show a1.tmps.getD 10 undef = _; rw [Array.getD_eq_getD_getElem?]; exact k10) hJ.2.1 ?_
        exact ⟨_, rfl, chR_refl _ _, hJ, _, rfl⟩
      · refine BigFrame.wp_move _ rfl ⟨_, rfl, chR_refl _ _, hJ, ?_⟩; show a1.tmps.getD 2 undef = _; rw [Array.getD_eq_getD_getElem?]; exact k2
      · refine BigFrame.wp_move _ rfl ⟨_, rfl, chR_refl _ _, hJ, ?_⟩; show a1.tmps.getD 3 undef = _; rw [Array.getD_eq_getD_getElem?]; exact k3
      · obtain ⟨⟨j, h1⟩, h2, h3⟩ := hd
        have h1 : a1.tmps[37]?.getD undef = .agg (itA j) := h1
        have h2 : a1.tmps[38]?.getD undef = .int .i64 a2 := h2
        have h3 : a1.tmps[39]?.getD undef = .int .i64 a3 := h3
        clear k10 k11 k2 k3
        go_simp
        refine (changed_any j a2 a3 w1).mono ?_
        rintro e w2 ⟨j2, rfl, b2⟩
        exact ⟨_, rfl, chR_below hJ.2.2.2.2 b2, chJ_below hJ b2, j2, rfl⟩
      · refine wo_loadI (.tmp 11) H2 sd (by show a1.tmps.getD 11 undef = _; rw [Array.getD_eq_getD_getElem?]; exact k11) hJ.2.2.1 ?_
        exact ⟨_, rfl, chR_refl _ _, hJ, _, rfl⟩
      · refine BigFrame.wp_move _ rfl ⟨_, rfl, chR_refl _ _, hJ, ?_⟩; show a1.tmps.getD 2 undef = _; rw [Array.getD_eq_getD_getElem?]; exact k2
      · refine BigFrame.wp_move _ rfl ⟨_, rfl, chR_refl _ _, hJ, ?_⟩; show a1.tmps.getD 3 undef = _; rw [Array.getD_eq_getD_getElem?]; exact k3
      · obtain ⟨⟨j, h1⟩, h2, h3⟩ := hd
        have h1 : a1.tmps[41]?.getD undef = .agg (itA j) := h1
        have h2 : a1.tmps[42]?.getD undef = .int .i64 a2 := h2
        have h3 : a1.tmps[43]?.getD undef = .int .i64 a3 := h3
        clear k10 k11 k2 k3
        go_simp
        refine (changed_any j a2 a3 w1).mono ?_
        rintro e w2 ⟨j2, rfl, b2⟩
        exact ⟨_, rfl, chR_below hJ.2.2.2.2 b2, chJ_below hJ b2, j2, rfl⟩
      · refine wo_allocI ⟨_, rfl, chR_below hJ.2.2.2.2 ((Below.refl _ _).alloc (Nat.le_refl _) _), chJ_below hJ ((Below.refl _ _).alloc (Nat.le_refl _) _), w1.heap.size, zeroI, rfl, hJ.2.2.2.2, ItAt.new _ _⟩
      · refine wo_allocI ⟨_, rfl, chR_below hJ.2.2.2.2 ((Below.refl _ _).alloc (Nat.le_refl _) _), chJ_below hJ ((Below.refl _ _).alloc (Nat.le_refl _) _), w1.heap.size, zeroI, rfl, hJ.2.2.2.2, ItAt.new _ _⟩
      · obtain ⟨⟨b, o, h1, h2, h3⟩, j, h4⟩ := hd
        refine wo_storeI (.tmp 12) (.tmp 40) b j o (by show a1.tmps.getD 12 undef = _; rw [Array.getD_eq_getD_getElem?]; exact h1) (by show a1.tmps.getD 40 undef = _; rw [Array.getD_eq_getD_getElem?]; exact h4) h3 ?_
        exact ⟨_, rfl, chR_row h2 h3 _, chJ_row hJ q0 q1 q2 h2 _, trivial⟩
    intro vs w1 hJ hG
    obtain ⟨x1, e1⟩ := hG (7, 44) (by simp)
    obtain ⟨b1, o1, f1, f2, f3⟩ := hG (8, 12) (by simp)
    obtain ⟨b2, o2, g1, g2, g3⟩ := hG (9, 13) (by simp)
    clear hG
    refine ⟨?_⟩
    simp only at e1 f1 g1
    simp only [AtOp, List.foldl_cons, List.foldl_nil]
    rw [e1, f1, g1]
    simp only [Act.put, List.setIfInBounds_toArray, List.set_cons_zero, List.set_cons_succ]
    refine wo_storeI (.tmp 13) (.tmp 44) b2 x1 o2 rfl rfl g3 ?_
    obtain ⟨o3, F3⟩ := (chR_row g2 g3 x1).2 b1 o1 f2 f3
    have G3 := g3.row x1
    have J9 := chJ_row hJ q0 q1 q2 g2 (itA x1)
    obtain ⟨W9, hW9⟩ : ∃ W, w1.setRow b2 (itA x1) = W := ⟨_, rfl⟩
    rw [hW9] at F3 G3 J9
    rw [hW9]
    simp only [Act.put]
    clear hW9 f3 g3 hJ
    have J9 := Lib.hid J9
    have F3 := Lib.hid F3
    have G3 := Lib.hid G3
    clear A8 R8 X8 B8 f2 g2 e1 f1 g1
    obtain ⟨vm, hvm⟩ : ∃ b, motK a3 = b := ⟨_, rfl⟩
    obtain ⟨v1, hv1⟩ : ∃ b, validI raw = b := ⟨_, rfl⟩
    obtain ⟨v2, hv2⟩ : ∃ b, validI it = b := ⟨_, rfl⟩
    obtain ⟨v3, hv3⟩ : ∃ b, validI sd = b := ⟨_, rfl⟩
    obtain ⟨v4, hv4⟩ : ∃ b, validI o3 = b := ⟨_, rfl⟩
    obtain ⟨v5, hv5⟩ : ∃ b, validI x1 = b := ⟨_, rfl⟩
    let S : World → Prop := VS w H H2 b1 b2 raw it sd o3 x1
    have hs : S W9.drew := ⟨J9.out.1.drew, J9.out.2.1.drew, J9.out.2.2.1.drew, F3.out.drew, G3.out.drew, J9.out.2.2.2.1.drew⟩
    have inst : Nonempty (At S) := ⟨⟨_, hs⟩⟩
    have KA := Lib.hid (fun q : At S => (awake_true q.w (HE0.out.below q.ok.bel hlow)).mono (fun e w' h => (⟨h.1, q.ok.below h.2⟩ : e = .returned (.bool true) ∧ S w')))
    have KM := Lib.hid (fun q : At S => (motionK_any a3 q.w).mono (fun e w' h => (⟨by rw [h.1, hvm], h.2 ▸ q.ok⟩ : e = .returned (.bool vm) ∧ S w')))
    have KR := Lib.hid (fun q : At S => (rmotionK_any a3 q.w).mono (fun e w' h => (⟨by rw [h.1, hvm], h.2 ▸ q.ok⟩ : e = .returned (.bool vm) ∧ S w')))
    have C1 := Lib.hid (fun q : At S => (cvalid_any raw q.w).mono (fun e w' h => (⟨by rw [h.1, hv1], q.ok.below h.2⟩ : e = .returned (.bool v1) ∧ S w')))
    have C2 := Lib.hid (fun q : At S => (cvalid_any it q.w).mono (fun e w' h => (⟨by rw [h.1, hv2], q.ok.below h.2⟩ : e = .returned (.bool v2) ∧ S w')))
    have C3 := Lib.hid (fun q : At S => (cvalid_any sd q.w).mono (fun e w' h => (⟨by rw [h.1, hv3], q.ok.below h.2⟩ : e = .returned (.bool v3) ∧ S w')))
    have C4 := Lib.hid (fun q : At S => (cvalid_any o3 q.w).mono (fun e w' h => (⟨by rw [h.1, hv4], q.ok.below h.2⟩ : e = .returned (.bool v4) ∧ S w')))
    have C5 := Lib.hid (fun q : At S => (cvalid_any x1 q.w).mono (fun e w' h => (⟨by rw [h.1, hv5], q.ok.below h.2⟩ : e = .returned (.bool v5) ∧ S w')))
    have D1 := Lib.hid (fun q : At S => (rvalid_v raw q.w).mono (fun e w' h => (⟨by rw [h.1, hv1], q.ok.below h.2⟩ : e = .returned (.bool v1) ∧ S w')))
    have D2 := Lib.hid (fun q : At S => (rvalid_v it q.w).mono (fun e w' h => (⟨by rw [h.1, hv2], q.ok.below h.2⟩ : e = .returned (.bool v2) ∧ S w')))
    have D3 := Lib.hid (fun q : At S => (rvalid_v sd q.w).mono (fun e w' h => (⟨by rw [h.1, hv3], q.ok.below h.2⟩ : e = .returned (.bool v3) ∧ S w')))
    have D4 := Lib.hid (fun q : At S => (rvalid_v o3 q.w).mono (fun e w' h => (⟨by rw [h.1, hv4], q.ok.below h.2⟩ : e = .returned (.bool v4) ∧ S w')))
    have D5 := Lib.hid (fun q : At S => (rvalid_v x1 q.w).mono (fun e w' h => (⟨by rw [h.1, hv5], q.ok.below h.2⟩ : e = .returned (.bool v5) ∧ S w')))
    have L1 := Lib.hid (fun q : At S => item_load q.ok.r)
    have L2 := Lib.hid (fun q : At S => item_load q.ok.i)
    have L3 := Lib.hid (fun q : At S => item_load q.ok.s)
    have L4 := Lib.hid (fun q : At S => item_load q.ok.x)
    have L5 := Lib.hid (fun q : At S => item_load q.ok.y)
    have HFIN : Hid (∀ q : At S, Below w.heap.size w q.w) := Lib.hid (fun q : At S => q.ok.bel)
    clear hvm hv1 hv2 hv3 hv4 hv5 J9 F3 G3
    clear_value S
    go_upto_region 11 with fail
    refine wp_region_at S (by kernel_rfl) (by kernel_rfl) hs ?_
    try simp only [List.append_eq, List.cons_append, List.nil_append]
    repeat (first
      | (go_big_quiet_want; (first
          | refine quiet_load 25 (.tmp 4) rfl _ _ rfl L1.out ?_
          | refine quiet_load 25 (.tmp 10) rfl _ _ rfl L2.out ?_
          | refine quiet_load 25 (.tmp 11) rfl _ _ rfl L3.out ?_
          | refine quiet_load 25 (.tmp 12) rfl _ _ rfl L4.out ?_
          | refine quiet_load 25 (.tmp 13) rfl _ _ rfl L5.out ?_); simp only [Act.put, List.setIfInBounds_toArray, List.set_cons_zero, List.set_cons_succ]; go_big_quiet_on)
      | go_big_quiet_step (first | with_reducible exact Calls.at_of (KA.out _) fun e w' h => ⟨h.1, h.2⟩ | with_reducible exact Calls.at_of (KM.out _) fun e w' h => ⟨h.1, h.2⟩ | with_reducible exact Calls.at_of (KR.out _) fun e w' h => ⟨h.1, h.2⟩ | with_reducible exact Calls.at_of (C1.out _) fun e w' h => ⟨h.1, h.2⟩ | with_reducible exact Calls.at_of (C2.out _) fun e w' h => ⟨h.1, h.2⟩ | with_reducible exact Calls.at_of (C3.out _) fun e w' h => ⟨h.1, h.2⟩ | with_reducible exact Calls.at_of (C4.out _) fun e w' h => ⟨h.1, h.2⟩ | with_reducible exact Calls.at_of (C5.out _) fun e w' h => ⟨h.1, h.2⟩ | with_reducible exact Calls.at_of (D1.out _) fun e w' h => ⟨h.1, h.2⟩ | with_reducible exact Calls.at_of (D2.out _) fun e w' h => ⟨h.1, h.2⟩ | with_reducible exact Calls.at_of (D3.out _) fun e w' h => ⟨h.1, h.2⟩ | with_reducible exact Calls.at_of (D4.out _) fun e w' h => ⟨h.1, h.2⟩ | with_reducible exact Calls.at_of (D5.out _) fun e w' h => ⟨h.1, h.2⟩))
    refine wpQuiet_nil ?_
    rintro _ ⟨p, rfl⟩
    have BF := HFIN.out p
    generalize p.w = W12 at BF ⊢
    clear HFIN inst hs KA KM KR C1 C2 C3 C4 C5 D1 D2 D3 D4 D5 L1 L2 L3 L4 L5
    go_wp2_with fail
    go_ret
    exact ⟨rfl, BF⟩
end Go.Proofs.YtefdjdipbnnoaaaDoor
