/-
  cncstage.Items: any tape.
  cncstage.Items: the walk.
  Lists of items in memory: appended, copied, one item stored. No condition.
-/
import Derived.Test.YtefdjdipbnnoaaaGreatDoorStageD17
import Derived.Test.YtefdjdipbnnoaaaGreatDoorCheck17
namespace Go.Proofs.YtefdjdipbnnoaaaGreatDoor
open Go Go.RowKit
set_option linter.unusedVariables false
set_option linter.unusedSimpArgs false

theorem infoIt : (Tryz.prog.info? 25).map (fun i => (i.zero, i.size, i.bytes)) = some (some (.agg (itA zeroI)), 22, 176) := by kernel_rfl
theorem it_fill (i : It) : Instr.fill (fun k => some (k * 22, 22)) ((Array.range (1 * 22)).map ((Value.agg (itA zeroI)).cells[· % (Value.agg (itA zeroI)).cells.size]!)) [(0, .agg (itA i))] = some (itA i) := by with_unfolding_all kernel_rfl
set_option maxRecDepth 100000 in
theorem go_it1 {ops : Array Oper} {rest : List Oper} {a : Act} {w : World} {Q : Exit → Act → World → Prop} {dst : Option Tmp} {ty0 : TypeId} {pos : String} {after : Array Edge} (x : Operand) (i : It) (hx : a.eval x = .agg (itA i))
    (h : wpList Tryz.prog ops Q rest (a.put dst (.slice (some ⟨w.heap.size, 0, none⟩) 1 1)) (w.alloc (.cells (itA i) 25))) : wpList Tryz.prog ops Q (⟨dst, .buildSlice 29 1 #[(0, x)], ty0, pos, after, none⟩ :: rest) a w := by
  obtain ⟨i0, hi, hz0, hz1, hz2⟩ := info_parts infoIt
  refine go_buildSlice 29 25 1 _ (itA i) i0 _ Tryz.underlying29 hi hz0 (by rw [hz1]; decide) (by rw [hz1]; decide) ?_ h
  rw [hz1]
  simp only [List.map_toArray, List.map_cons, List.map_nil, hx]
  exact it_fill _
theorem it_one (i : It) : ∀ u ∈ (itA i).toList, u.oneCell' = true := by
  intro u hu
  have := Array.all_eq_true_iff_forall_mem.1 (itA_one i)
  exact this u (by simpa using hu)
/-- append of one item that lies in a block of its own. -/
theorem go_itapp {ops : Array Oper} {rest : List Oper} {a : Act} {w : World} {Q : Exit → Act → World → Prop} {dst : Option Tmp} {ty0 : TypeId} {pos : String} {after : Array Edge} (x y : Operand) {base : Nat} {v : Value} (ts : List It) (t : It) (g : Nat)
    (hx : a.eval x = v) (hown : w.ownsRow base 25 22 v ts.length (itsC ts)) (hy : a.eval y = .slice (some ⟨g, 0, none⟩) 1 1) (hg : ItAt w g t) (hn : ts.length ≤ 1000000) (hb : base ≤ w.heap.size)
    (h : ∀ v' w', w'.ownsRow base 25 22 v' (ts ++ [t]).length (itsC (ts ++ [t])) → w.grownBy w' v.ownBlock → wpList Tryz.prog ops Q rest (a.put dst v') w') : wpList Tryz.prog ops Q (⟨dst, .call { callee := .builtin .append, args := #[x, y], argTypes := #[29, 29] }, ty0, pos, after, none⟩ :: rest) a w := by
  obtain ⟨i0, hi, hz0, hz1, hz2⟩ := info_parts infoIt
  refine wpList_append_lies w rfl x y 29 rfl base 25 i0 (.agg (itA zeroI)) 22 176 Tryz.underlying29 hi hz0 hz1 hz2 rfl (by decide) v ts.length (itsC ts) hx hown ⟨g, 0, none⟩ 1 1 (itA t).toList hy rfl ?_ (it_one t) (by omega) (by unfold maxLen; omega) (by omega) hb w.heap.size rfl ?_
  · intro j u hu
    rw [Addr.add_mid, Nat.zero_add, hg.cell]
    simpa using hu
  · intro g' c' w' hown' hgrow _ _
    rw [← itsC_snoc] at hown'
    have e : ts.length + 1 = (ts ++ [t]).length := by simp
    rw [e] at hown'
    have := h (.slice (some ⟨g', 0, none⟩) (ts ++ [t]).length c') w' hown' hgrow
    rw [← e] at this
    exact this
/-! ### Canonical lists -/
def walkAt (p : V3) : List It → V3
  | [] => p
  | x :: l => walkAt (if motK x.kind then x.to3 else p) l
/-- A canonical list without an end, whose first motion begins at p. -/
def Good (p : V3) : List It → Prop
  | [] => True
  | x :: l => validI x = true ∧ x.kind ≤ 13 ∧ (motK x.kind = true → x.from3 = p) ∧ Good (if motK x.kind then x.to3 else p) l
theorem walkAt_append (l m : List It) : ∀ p, walkAt p (l ++ m) = walkAt (walkAt p l) m := by
  induction l with
  | nil => intro p; rfl
  | cons x l ih => intro p; exact ih _
theorem Good_append (l m : List It) : ∀ p, Good p (l ++ m) ↔ Good p l ∧ Good (walkAt p l) m := by
  induction l with
  | nil => intro p; simp [Good, walkAt]
  | cons x l ih =>
    intro p
    show (_ ∧ _ ∧ _ ∧ Good _ (l ++ m)) ↔ _
    rw [ih]
    show _ ↔ (_ ∧ _ ∧ _ ∧ Good _ l) ∧ Good (walkAt _ l) m
    constructor
    · rintro ⟨h1, h2, h3, h4, h5⟩
      exact ⟨⟨h1, h2, h3, h4⟩, h5⟩
    · rintro ⟨⟨h1, h2, h3, h4⟩, h5⟩
      exact ⟨h1, h2, h3, h4, h5⟩
theorem Good.snoc {p : V3} {l : List It} {x : It} (h : Good p l) (hv : validI x = true) (hk : x.kind ≤ 13) (hf : motK x.kind = true → x.from3 = walkAt p l) : Good p (l ++ [x]) := (Good_append l [x] p).2 ⟨h, hv, hk, hf, trivial⟩
def ItemsPost (B g : Nat) (a : Option Addr) (n c : Nat) (z : Nat → Int) (w : World) (e : Ending) (w' : World) : Prop :=
  ∃ v l p, e = .returned v ∧ Good p l ∧ l.length ≤ 8 ∧ w'.ownsRow w.heap.size 25 22 v l.length (itsC l) ∧ GI B g a n c z w w'
/-- What stands in a round. -/
structure IJ (B g : Nat) (a : Option Addr) (n c : Nat) (z : Nat → Int) (A : Nat) (p : V3) (v : Value) (l : List It) (w W : World) : Prop where
  gi : GI B g a n c z w W
  at' : Blk W A 23 (v3A p)
  own : W.ownsRow (A + 1) 25 22 v l.length (itsC l)
  base : w.heap.size ≤ A
section
variable {B g n c A : Nat} {a : Option Addr} {z : Nat → Int} {p : V3} {v : Value} {l : List It} {w W W' : World}
theorem IJ.alloc (h : IJ B g a n c z A p v l w W) (o : Obj) : IJ B g a n c z A p v l w (W.alloc o) := ⟨h.gi.alloc o, h.at'.alloc o, h.own.alloc o, h.base⟩
theorem IJ.next (h : IJ B g a n c z A p v l w W) (h' : GI B g a n c z W W') : IJ B g a n c z A p v l w W' :=
  ⟨h.gi.trans h', h.at'.grown h'.gr (by intro e; injection e; have := h.gi.lt; have := h.base; omega), own_grown h.own h'.gr (by intro k hk; injection hk; have := h.gi.lt; have := h.base; omega), h.base⟩
theorem IJ.below (h : IJ B g a n c z A p v l w W) (hb : Below W.heap.size W W') : IJ B g a n c z A p v l w W' := ⟨h.gi.below hb, h.at'.below hb h.at'.lt, own_grown h.own (grown_of_below hb) (by intro k hk; cases hk), h.base⟩
theorem IJ.row (h : IJ B g a n c z A p v l w W) {b : Nat} (hb : W.heap.size ≤ b + 1) (hA : A < b) (hv : v.ownBlock ≠ some b) (cs : Array Value) : IJ B g a n c z A p v l w (W.setRow b cs) :=
  ⟨h.gi.row (by have := h.base; omega) cs, h.at'.rowFar (by omega) cs, h.own.kept (grown_setRow (grown_refl W (some b)) (.inl rfl) cs) (.inr hv), h.base⟩
end
end Go.Proofs.YtefdjdipbnnoaaaGreatDoor

namespace Go.Proofs.YtefdjdipbnnoaaaGreatDoor
open Go Go.RowKit
set_option linter.unusedVariables false
set_option linter.unusedSimpArgs false

theorem IJ.walk {B g n c A : Nat} {a : Option Addr} {z : Nat → Int} {p : V3} {v : Value} {l : List It} {w W : World} (h : IJ B g a n c z A p v l w W) (q : V3) : IJ B g a n c z A q v l w (((W.setCell ⟨A, 0, none⟩ (.int .i64 q.1)).setCell ⟨A, 1, none⟩ (.int .i64 q.2.1)).setCell ⟨A, 2, none⟩ (.int .i64 q.2.2)) := by
  have hb := h.base
  have g1 := grown_setCell (w := W) (p := ⟨A, 0, none⟩) (grown_refl W (some A)) (.inl rfl) (.int .i64 q.1)
  have g2 := grown_setCell (p := ⟨A, 1, none⟩) g1 (.inl rfl) (.int .i64 q.2.1)
  have g3 := grown_setCell (p := ⟨A, 2, none⟩) g2 (.inl rfl) (.int .i64 q.2.2)
  have i1 := h.gi.set (b := A) hb 0 (.int .i64 q.1)
  have i2 := i1.set (b := A) hb 1 (.int .i64 q.2.1)
  have i3 := i2.set (b := A) hb 2 (.int .i64 q.2.2)
  have a1 := Blk.put h.at' 0 (.int .i64 q.1)
  have a2 := Blk.put a1 1 (.int .i64 q.2.1)
  have a3 := Blk.put a2 2 (.int .i64 q.2.2)
  exact ⟨i3, a3, own_grown h.own g3 (by intro k hk; have := Option.some.inj hk; omega), hb⟩
theorem IJ.push {B g n c A : Nat} {a : Option Addr} {z : Nat → Int} {p : V3} {v v' : Value} {l m : List It} {w W W' : World} {o : Obj} (h : IJ B g a n c z A p v l w W) (ho : W'.ownsRow (A + 1) 25 22 v' m.length (itsC m)) (hg : (W.alloc o).grownBy W' v.ownBlock) : IJ B g a n c z A p v' m w W' := by
  have JA := h.alloc o
  have hgl := JA.gi.lt
  have hold := JA.gi.old
  have hbase := JA.base
  have hsz := JA.gi.gr.size
  have hb : ∀ b, v.ownBlock = some b → A + 1 ≤ b := fun b e => (JA.own.lt b e).1
  refine ⟨⟨?_, ⟨hg.os.trans JA.gi.gr.os, hg.tape.trans JA.gi.gr.tape, hg.output.trans JA.gi.gr.output, Nat.le_trans hsz hg.size, fun b hb' hne => (hg.block b (by omega) (fun e => by have := hb b e.symm; omega)).trans (JA.gi.gr.block b hb' hne)⟩, hgl, hold⟩, JA.at'.grown hg (fun e => by have := hb A e.symm; omega), ho, hbase⟩
  obtain ⟨kk, hsk⟩ := JA.gi.src
  exact ⟨kk, hsk.keep (hg.block g hsk.lt (fun e => by have := hb g e.symm; omega)) (fun q hq => World.cell?_of_block (hg.block q.block (by omega) (fun e => by have := hb q.block e.symm; omega)))⟩
attribute [local go_sem] itA_0 itA_1 itA_2 itA_3 itA_4 itA_5 itA_6 itA_7 itA_8 itA_9 itA_10 itA_11 itA_12 itA_13 itA_14 itA_15 itA_16 itA_17 itA_18 itA_19 itA_20 itA_21
set_option maxRecDepth 100000 in
set_option maxHeartbeats 4000000 in
theorem sitems_any (w : World) (B g : Nat) (a : Option Addr) (n c : Nat) (z : Nat → Int) (hs : ∃ k, Src w B g a n c z k) :
    Calls Tryz.prog 8 #[.pointer (some ⟨g, 0, none⟩)] w (ItemsPost B g a n c z w) := by
  have J0 := Lib.hid (GI.refl hs)
  have hgl := (GI.refl hs).lt
  clear hs
  go_enter Tryz.func8, Tryz.ntmps8
  go_wp2_with fail
  refine (svec_any w B g a n c z 2000 J0.out.src (by omega) (by omega)).mono ?_
  rintro e w1 ⟨x0, y0, u0, _, _, _, rfl, G1⟩
  have sz1 := G1.size
  have J1 := Lib.hid (⟨(J0.out.trans G1).alloc _, Blk.new w1 _ _, World.ownsRow_nil _ _ _ _, sz1⟩ : IJ B g a n c z w1.heap.size (x0, y0, u0) (.slice none 0 0) [] w (w1.alloc (.cells #[.int .i64 x0, .int .i64 y0, .int .i64 u0] 23)))
  clear G1 J0
  go_wp2_with fail
  refine calls_told (fun W => IJ B g a n c z w1.heap.size (x0, y0, u0) (.slice none 0 0) [] w W) J1.out ?_
  clear J1
  rintro w2 J2
  refine (next_any w2 B g a n c z 9 J2.gi.src (by omega) (by omega)).mono ?_
  rintro e w3 ⟨r0, k3, hr0, hr1, rfl, s3, g3⟩
  have J3 := Lib.hid (J2.next (⟨⟨k3, s3⟩, g3, Nat.lt_of_lt_of_le hgl J2.gi.size, J2.gi.old⟩))
  clear J2 s3 g3
  obtain ⟨p0, hp0⟩ : ∃ p : V3, p = (x0, y0, u0) := ⟨_, rfl⟩
  rw [← hp0] at J3
  clear hp0
  obtain ⟨A, hA⟩ : ∃ A, w1.heap.size = A := ⟨_, rfl⟩
  rw [hA] at J3 sz1
  go_wp2_with fail
  try rw [hA]
  clear hA
  go_loopw [4, 5] (fun s4 s5 wr => ∃ (L : List It) (r : Int) (v4 : Value), v4 = s4 ∧ s5 = .int .i64 r ∧ 0 ≤ r ∧ (L.length : Int) + r ≤ 8 ∧ Good p0 L ∧ IJ B g a n c z A (walkAt p0 L) v4 L w wr)
    (fun _ s5 _ => (intOf s5).toNat)
  case atStart => exact ⟨[], r0, _, rfl, rfl, hr0, by simp; omega, trivial, J3.out⟩
  case round =>
    obtain ⟨L, r, v4, rfl, rfl, hr0, hlen, hgd, hJ⟩ := hrel
    have HJ := Lib.hid hJ
    have HGD := Lib.hid hgd
    have lA := hJ.at'.lt
    clear hJ hgd J3
    by_cases hpos : 0 < r
    · have d1 : decide (0 < r) = true := decide_eq_true hpos
      obtain ⟨p, hp⟩ : ∃ p, walkAt p0 L = p := ⟨_, rfl⟩
      have HP := Lib.hid hp
      rw [hp] at HJ
      clear hp
      have q0 : wr.cell? ⟨A, 0, none⟩ = some (.int .i64 p.1) := HJ.out.at'.cell' 0 rfl
      have q1 : wr.cell? ⟨A, 1, none⟩ = some (.int .i64 p.2.1) := HJ.out.at'.cell' 1 rfl
      have q2 : wr.cell? ⟨A, 2, none⟩ = some (.int .i64 p.2.2) := HJ.out.at'.cell' 2 rfl
      go_wp2_with fail
      refine (sitem_any wr B g a n c z p.1 p.2.1 p.2.2 HJ.out.gi.src).mono ?_
      rintro e w4 ⟨it, hmade, rfl, G4⟩
      have J4 := HJ.out.next G4
      have sz4 := G4.size
      have hv4 : v4.ownBlock ≠ some w4.heap.size := fun e => by have := (J4.own.lt _ e).2; omega
      obtain ⟨W5, hW5⟩ : ∃ W, (w4.alloc (.cells (itA zeroI) 25)).setRow w4.heap.size (itA it) = W := ⟨_, rfl⟩
      have A5 : ItAt W5 w4.heap.size it := by rw [← hW5]; exact ItAt.row (ItAt.new w4 zeroI) _
      have J5 : IJ B g a n c z A p v4 L w W5 := by rw [← hW5]; exact (J4.alloc _).row (by simp) (by omega) hv4 _
      have lt5 := A5.lt
      have HM := Lib.hid hmade
      have A5 := Lib.hid A5
      have J5 := Lib.hid J5
      clear J4 G4 q0 q1 q2 HJ hmade
      go_upto_region 7 with (first
        | ((with_reducible refine go_allocI ?_))
        | ((with_reducible refine go_storeI (.tmp 6) (.tmp 17) w4.heap.size it zeroI (by with_unfolding_all rfl) (by with_unfolding_all rfl) (ItAt.new _ _) ?_)))
      rw [hW5]
      clear hW5
      obtain ⟨H, hH⟩ : ∃ H, w4.heap.size = H := ⟨_, rfl⟩
      rw [hH] at A5 lt5 hv4 sz4 ⊢
      clear hH
      have KV := Lib.hid (fun W => rvalid_v it W)
      obtain ⟨vl, hvl⟩ : ∃ b, validI it = b := ⟨_, rfl⟩
      rw [hvl] at KV
      have HVL := Lib.hid hvl
      clear hvl
      go_wp2_with ((with_reducible refine go_loadI (.tmp 6) H it (by with_unfolding_all rfl) A5.out ?_))
      refine (KV.out _).mono ?_
      rintro e w6 ⟨rfl, b6⟩
      have A6 : ItAt w6 H it := A5.out.below b6
      have J6 := J5.out.below b6
      have lt6 := A6.lt
      clear A5 J5 b6
      cases vl
      · have J6 := Lib.hid J6
        have FJ := Lib.hid (show IJ B g a n c z A (walkAt p0 L) v4 L w w6 by rw [HP.out]; exact J6.out)
        go_wp2_with fail
        go_roundw
        case rel => exact ⟨L, r - 1, _, rfl, by rfl, by omega, by omega, HGD.out, FJ.out⟩
        case measure => simp [intOf]; omega
      have KM := Lib.hid (fun W => rmotionK_any it.kind W)
      obtain ⟨mt, hmt⟩ : ∃ b, motK it.kind = b := ⟨_, rfl⟩
      rw [hmt] at KM
      have HMT := Lib.hid hmt
      clear hmt
      have c0 := A6.c0
      have c5 := A6.c5
      have c6 := A6.c6
      have c7 := A6.c7
      have A6 := Lib.hid A6
      have J6 := Lib.hid J6
      have HGN := Lib.hid (show Good p0 (L ++ [it]) from HGD.out.snoc HVL.out HM.out.2.1 (fun hm => by
        have h6 : it.kind ≤ 6 := (of_decide_eq_true hm).2
        obtain ⟨m1, m2, m3⟩ := HM.out.2.2 h6
        rw [HP.out]
        unfold It.from3
        rw [m1, m2, m3]))
      go_wp2_with fail
      refine (KM.out _).mono ?_
      rintro e w' ⟨rfl, rfl⟩
      cases mt
      · have hw : walkAt p0 (L ++ [it]) = p := by rw [walkAt_append, HP.out]; show (if motK it.kind then it.to3 else p) = p; rw [HMT.out]; rfl
        have J7 := J6
        have A7 := A6
        clear J6 A6 c5 c6 c7 c0
        have hv7 : v4.ownBlock ≠ some A := fun e => by have := (J7.out.own.lt _ e).1; omega
        have szA := J7.out.base
        go_wp2_with (first
          | ((with_reducible refine go_loadI (.tmp 6) H it (by with_unfolding_all rfl) A7.out ?_))
          | ((with_reducible refine go_it1 (.tmp 27) it (by with_unfolding_all rfl) ?_))
          | ((with_reducible refine go_itapp (.tmp 26) (.tmp 28) L it _ (by with_unfolding_all rfl) (J7.out.own.alloc _) (by with_unfolding_all rfl) (ItAt.new _ _) (by omega) (by simp; omega) ?_); intro v' w10 hown10 hgrow; have FF := Lib.hid (IJ.push J7.out hown10 hgrow); clear hown10 hgrow))
        go_roundw
        case rel => exact ⟨L ++ [it], r - 1, _, rfl, by rfl, by omega, by rw [List.length_append]; simp; omega, HGN.out, by rw [hw]; exact FF.out⟩
        case measure => simp [intOf]; omega
      · have hw : walkAt p0 (L ++ [it]) = it.to3 := by rw [walkAt_append, HP.out]; show (if motK it.kind then it.to3 else p) = it.to3; rw [HMT.out]; rfl
        have f0 := J6.out.at'.frozen 0
        have f1 := J6.out.at'.frozen 1
        have f2 := J6.out.at'.frozen 2
        have p0' : w6.cell? ⟨A, 0, none⟩ = some (.int .i64 p.1) := J6.out.at'.cell' 0 rfl
        have p1' : w6.cell? ⟨A, 1, none⟩ = some (.int .i64 p.2.1) := J6.out.at'.cell' 1 rfl
        have p2' : w6.cell? ⟨A, 2, none⟩ = some (.int .i64 p.2.2) := J6.out.at'.cell' 2 rfl
        have J8 := J6.out.walk it.to3
        have A8 : ItAt (((w6.setCell ⟨A, 0, none⟩ (.int .i64 it.tx)).setCell ⟨A, 1, none⟩ (.int .i64 it.ty)).setCell ⟨A, 2, none⟩ (.int .i64 it.tz)) H it := ItAt.far (ItAt.far (ItAt.far A6.out (p := ⟨A, 0, none⟩) (by show H ≠ A; omega) (.int .i64 it.tx)) (p := ⟨A, 1, none⟩) (by show H ≠ A; omega) (.int .i64 it.ty)) (p := ⟨A, 2, none⟩) (by show H ≠ A; omega) (.int .i64 it.tz)
        obtain ⟨w7, hw7⟩ : ∃ W, ((w6.setCell ⟨A, 0, none⟩ (.int .i64 it.tx)).setCell ⟨A, 1, none⟩ (.int .i64 it.ty)).setCell ⟨A, 2, none⟩ (.int .i64 it.tz) = W := ⟨_, rfl⟩
        rw [hw7] at A8
        have J8 : IJ B g a n c z A it.to3 v4 L w w7 := by rw [← hw7]; exact J8
        have J7 := Lib.hid J8
        have A7 := Lib.hid A8
        clear J6 A6 J8 A8 c0
        go_upto_region 10 with fail
        try rw [hw7]
        clear f0 f1 f2 p0' p1' p2' c5 c6 c7 hw7
        have lt7 := A7.out.lt
        have hv7 : v4.ownBlock ≠ some A := fun e => by have := (J7.out.own.lt _ e).1; omega
        have szA := J7.out.base
        go_wp2_with (first
          | ((with_reducible refine go_loadI (.tmp 6) H it (by with_unfolding_all rfl) A7.out ?_))
          | ((with_reducible refine go_it1 (.tmp 27) it (by with_unfolding_all rfl) ?_))
          | ((with_reducible refine go_itapp (.tmp 26) (.tmp 28) L it _ (by with_unfolding_all rfl) (J7.out.own.alloc _) (by with_unfolding_all rfl) (ItAt.new _ _) (by omega) (by simp; omega) ?_); intro v' w10 hown10 hgrow; have FF := Lib.hid (IJ.push J7.out hown10 hgrow); clear hown10 hgrow))
        go_roundw
        case rel => exact ⟨L ++ [it], r - 1, _, rfl, by rfl, by omega, by rw [List.length_append]; simp; omega, HGN.out, by rw [hw]; exact FF.out⟩
        case measure => simp [intOf]; omega
    · have d1 : decide (0 < r) = false := decide_eq_false hpos
      have HO := Lib.hid (own_base HJ.out.own (show w.heap.size ≤ A + 1 by have := HJ.out.base; omega))
      have HG := Lib.hid HJ.out.gi
      have hl8 : L.length ≤ 8 := by omega
      obtain ⟨a5, c5, rfl, _, _⟩ := its_own HJ.out.own
      clear HJ
      go_wp2_with fail
      go_ret
      exact ⟨_, L, p0, rfl, HGD.out, hl8, HO.out, HG.out⟩
end Go.Proofs.YtefdjdipbnnoaaaGreatDoor

namespace Go.Proofs.YtefdjdipbnnoaaaGreatDoor
open Go Go.RowKit
set_option linter.unusedVariables false
set_option linter.unusedSimpArgs false

theorem itsC_one (l : List It) : ∀ u ∈ itsC l, u.oneCell' = true := by
  induction l with
  | nil => intro u hu; cases hu
  | cons x l ih =>
    intro u hu
    rcases List.mem_append.1 (show u ∈ (itA x).toList ++ itsC l from hu) with h | h
    · exact it_one x u h
    · exact ih u h
/-- What lies at a list's address, cell by cell. -/
theorem ItsAt.cells {W : World} {ad : Addr} {l : List It} (h : ItsAt W (some ad) l) : ∀ (j : Nat) (u : Value), (itsC l)[j]? = some u → W.cell? (ad.add j) = some u := by
  intro j u hu
  have hj : j < l.length * 22 := by rw [← itsC_length]; exact (List.getElem?_eq_some_iff.1 hu).1
  have hi : j / 22 < l.length := by omega
  obtain ⟨b, o, eb, _, hc⟩ := h (j / 22) _ (List.getElem?_eq_getElem hi)
  injection eb with eb
  subst eb
  have e := itsC_at l (j / 22) (j % 22) _ (List.getElem?_eq_getElem hi) (by omega)
  rw [show j / 22 * 22 + j % 22 = j by omega, hu] at e
  have := hc (j % 22) u e.symm
  rw [show o + j / 22 * 22 + j % 22 = o + j by omega] at this
  rw [Addr.add_mid]
  exact this
/-- append of a list to an owned one. -/
theorem go_itsapp {ops : Array Oper} {rest : List Oper} {a : Act} {w : World} {Q : Exit → Act → World → Prop} {dst : Option Tmp} {ty0 : TypeId} {pos : String} {after : Array Edge} (x y : Operand) {base : Nat} {v : Value} (ts : List It) (ao : Option Addr) (c : Nat) (us : List It)
    (hx : a.eval x = v) (hown : w.ownsRow base 25 22 v ts.length (itsC ts)) (hy : a.eval y = .slice ao us.length c) (h0 : ao = none → us.length = 0 ∧ c = 0) (hat : ItsAt w ao us) (hn : ts.length + us.length ≤ 1000000) (hb : base ≤ w.heap.size)
    (h : ∀ v' w', w'.ownsRow base 25 22 v' (ts ++ us).length (itsC (ts ++ us)) → w.grownBy w' v.ownBlock → wpList Tryz.prog ops Q rest (a.put dst v') w') : wpList Tryz.prog ops Q (⟨dst, .call { callee := .builtin .append, args := #[x, y], argTypes := #[29, 29] }, ty0, pos, after, none⟩ :: rest) a w := by
  obtain ⟨i0, hi, hz0, hz1, hz2⟩ := info_parts infoIt
  refine wpList_append_tab rfl x y 29 rfl base 25 i0 (.agg (itA zeroI)) 22 176 Tryz.underlying29 hi hz0 hz1 hz2 rfl (by decide) v ts.length (itsC ts) hx hown ao us.length c (itsC us) hy h0 (itsC_length us) ?_ (itsC_one us) (by unfold maxLen; omega) (by omega) hb ?_
  · intro ad had
    subst had
    exact hat.cells
  · intro v' w' hown' hgrow _
    rw [← itsC_append, ← List.length_append] at hown'
    exact h v' w' hown' hgrow
theorem own_empty {w : World} {g base : Nat} (hg : Blk w g 25 #[]) (hb : base ≤ g) : w.ownsRow base 25 22 (.slice (some ⟨g, 0, none⟩) 0 0) ([] : List It).length (itsC []) :=
  ⟨rfl, .inr ⟨g, 0, #[], rfl, hb, hg, Nat.le_refl _, by decide, by simp, by simp [itsC]⟩⟩
/-- append of a list to an empty literal. -/
theorem go_itcopy {ops : Array Oper} {rest : List Oper} {a : Act} {w : World} {Q : Exit → Act → World → Prop} {dst : Option Tmp} {ty0 : TypeId} {pos : String} {after : Array Edge} (x y : Operand) (g : Nat) (ao : Option Addr) (c : Nat) (us : List It)
    (hx : a.eval x = .slice (some ⟨g, 0, none⟩) 0 0) (hg : Blk w g 25 #[]) (hy : a.eval y = .slice ao us.length c) (h0 : ao = none → us.length = 0 ∧ c = 0) (hat : ItsAt w ao us) (hn : us.length ≤ 1000000)
    (h : ∀ v' w', w'.ownsRow g 25 22 v' us.length (itsC us) → w.grownBy w' (some g) → wpList Tryz.prog ops Q rest (a.put dst v') w') : wpList Tryz.prog ops Q (⟨dst, .call { callee := .builtin .append, args := #[x, y], argTypes := #[29, 29] }, ty0, pos, after, none⟩ :: rest) a w := by
  refine go_itsapp x y [] ao c us hx (own_empty hg (Nat.le_refl g)) hy h0 hat (by simp; omega) (Nat.le_of_lt hg.lt) ?_
  intro v' w' ho hgr
  rw [List.nil_append] at ho
  exact h v' w' ho hgr
/-- A list in a block of its own. -/
def ItsOwn (W : World) (base g : Nat) (l : List It) : Prop := base ≤ g ∧ ∃ cur : Array Value, Blk W g 25 cur ∧ ∀ (j : Nat) (u : Value), (itsC l)[j]? = some u → cur[j]? = some u
theorem its_form {W : World} {base : Nat} {v : Value} {l : List It} (h : W.ownsRow base 25 22 v l.length (itsC l)) (hl : 0 < l.length) : ∃ g c, v = .slice (some ⟨g, 0, none⟩) l.length c ∧ ItsOwn W base g l := by
  rcases h.2 with ⟨_, e⟩ | ⟨g, cap, cur, rfl, hb, hg, _, _, _, ht⟩
  · omega
  · refine ⟨g, cap, rfl, hb, cur, hg, fun j u hu => ?_⟩
    have hj := (List.getElem?_eq_some_iff.1 hu).1
    rw [itsC_length] at hj
    rw [← ht, List.getElem?_take] at hu
    rw [if_pos hj] at hu
    rw [← Array.getElem?_toList]
    exact hu
theorem ItsOwn.at' {W : World} {base g : Nat} {l : List It} (h : ItsOwn W base g l) : ItsAt W (some ⟨g, 0, none⟩) l := fun i t hi => by
  obtain ⟨_, cur, hb, hc⟩ := h
  refine ⟨g, 0, rfl, hb.lt, fun j v hv => ?_⟩
  rw [Nat.zero_add, hb.cell]
  have hj : j < 22 := (List.getElem?_eq_some_iff.1 hv).1
  exact hc _ _ ((itsC_at l i j t hi hj).trans hv)
theorem ItsOwn.below {W W' : World} {base g : Nat} {l : List It} (h : ItsOwn W base g l) (hb : Below W.heap.size W W') : ItsOwn W' base g l := by
  obtain ⟨h1, cur, h2, h3⟩ := h
  exact ⟨h1, cur, h2.below hb h2.lt, h3⟩
theorem its_form2 {W : World} {base : Nat} {v : Value} {l : List It} (h : W.ownsRow base 25 22 v l.length (itsC l)) : ∃ a c, v = .slice a l.length c ∧ ItsAt W a l ∧ (a = none → l.length = 0 ∧ c = 0) ∧ (0 < l.length → ∃ g, a = some ⟨g, 0, none⟩ ∧ ItsOwn W base g l) := by
  obtain ⟨a, c, rfl, h1, h2⟩ := its_own h
  refine ⟨a, c, rfl, h1, h2, fun hl => ?_⟩
  obtain ⟨g, c', e, h3⟩ := its_form h hl
  injection e with e
  exact ⟨g, e, h3⟩
theorem its_form3 {W : World} {base : Nat} {a : Option Addr} {c : Nat} {l : List It} (h : W.ownsRow base 25 22 (.slice a l.length c) l.length (itsC l)) : (a = none ∧ l.length = 0 ∧ c = 0) ∨ ∃ g, a = some ⟨g, 0, none⟩ ∧ l.length ≤ c ∧ c ≤ 9223372036854775807 := by
  rcases h.2 with ⟨e, e0⟩ | ⟨g, cap, cur, e, hb, hg, h1, h2, _⟩
  · injection e with e1 e2 e3
    exact .inl ⟨e1, e0, e3⟩
  · injection e with e1 e2 e3
    subst e3
    exact .inr ⟨g, e1, h1, by unfold maxLen at h2; omega⟩
theorem ItsAt.take {W : World} {a : Option Addr} {l : List It} (h : ItsAt W a l) (k : Nat) : ItsAt W a (l.take k) := fun i t hi => by
  rw [List.getElem?_take] at hi
  split at hi
  · exact h i t hi
  · cases hi
theorem ItsAt.drop {W : World} {g o : Nat} {l : List It} (h : ItsAt W (some ⟨g, o, none⟩) l) (k : Nat) : ItsAt W (some ⟨g, o + k * 22, none⟩) (l.drop k) := fun i t hi => by
  rw [List.getElem?_drop] at hi
  obtain ⟨b, o', e, hb, hc⟩ := h (k + i) t hi
  injection e with e
  injection e with e1 e2
  subst e1 e2
  refine ⟨_, _, rfl, hb, fun j v hv => ?_⟩
  have := hc j v hv
  rw [show o + (k + i) * 22 + j = o + k * 22 + i * 22 + j by omega] at this
  exact this
theorem its_hi {a : Option Addr} {len c k : Nat} (ha : a = none ∨ ∃ g, a = some ⟨g, 0, none⟩) (hk : k ≤ c) (W : World) : (Instr.sliceAt 29 (.slice a len c) none (some (.int .i64 (k : Int))) none).run Tryz.prog W = .ok (.slice a k c) W := by
  have h0 : (0 : Int) ≤ (k : Int) := by omega
  have h1 : (k : Int) ≤ (c : Int) := by omega
  rcases ha with rfl | ⟨g, rfl⟩
  · go_simp
  · go_simp
theorem its_lo {a : Option Addr} {c k : Nat} {l : List It} (ha : a = none ∧ l.length = 0 ∧ c = 0 ∨ ∃ g, a = some ⟨g, 0, none⟩ ∧ l.length ≤ c ∧ c ≤ 9223372036854775807) (hk : k ≤ l.length) :
    ∃ ad, (∀ W, (Instr.sliceAt 29 (.slice a l.length c) (some (.int .i64 (k : Int))) none none).run Tryz.prog W = .ok (.slice ad (l.length - k) (c - k)) W) ∧ ∀ W, ItsAt W a l → ItsAt W ad (l.drop k) := by
  have h0 : (0 : Int) ≤ (k : Int) := by omega
  have h1 : (k : Int) ≤ (l.length : Int) := by omega
  rcases ha with ⟨rfl, e0, rfl⟩ | ⟨g, rfl, h2, h3⟩
  · obtain rfl : k = 0 := by omega
    refine ⟨none, fun W => ?_, fun W h => by rw [List.drop_zero]; exact h⟩
    go_simp
  · by_cases hc : c = k
    · refine ⟨some ⟨g, 0, none⟩, fun W => ?_, fun W h => by rw [List.drop_eq_nil_of_le (by omega)]; exact ItsAt.nil _ _⟩
      go_simp
    · refine ⟨some ⟨g, k * 22, none⟩, fun W => ?_, fun W h => by have := h.drop k; rwa [Nat.zero_add] at this⟩
      go_simp
theorem go_slice {ops : Array Oper} {rest : List Oper} {a : Act} {w : World} {Q : Exit → Act → World → Prop} {dst : Option Tmp} {ty0 : TypeId} {pos : String} {after : Array Edge} (t : TypeId) (x : Operand) (lo hi : Option Operand) (v : Value)
    (hr : (Instr.sliceAt t (a.eval x) (lo.map a.eval) (hi.map a.eval) none).run Tryz.prog w = .ok v w) (h : wpList Tryz.prog ops Q rest (a.put dst v) w) : wpList Tryz.prog ops Q (⟨dst, .slice t x lo hi none, ty0, pos, after, none⟩ :: rest) a w := by
  refine wpList_plain rfl fun K hK => ?_
  have := hK _ _ h
  clear h hK
  unfold Oper.wp execOp
  simp only [Option.map_none, Sem.run_bind, hr, Result.andThen_ok, Sem.run_pure]
  exact this
theorem its_nil {W : World} {a : Option Addr} {len cap : Nat} (h : Leaf W (.tab itKinds) (.slice a len cap)) : a = none → len = 0 ∧ cap = 0 := by
  obtain ⟨_, _, _, _, h0⟩ := TabAt.of_leaf (C := 22) h rfl (by omega)
  exact h0
theorem below_cells {B b : Nat} {a : World} (hb : B ≤ b) : ∀ (vs : List Value) (o : Nat) (w : World), Below B a w → Below B a (w.setCells b o vs)
  | [], _, _, h => h
  | v :: r, o, w, h => below_cells hb r (o + 1) _ (h.setCell (p := ⟨b, o, none⟩) hb v)
/-- One item is stored. -/
theorem ItsOwn.set {W : World} {base g : Nat} {l : List It} (h : ItsOwn W base g l) {k : Nat} (hk : k < l.length) (x : It) : ItsAt (W.setCells g (k * 22) (itA x).toList) (some ⟨g, 0, none⟩) (l.set k x) ∧ W.there g (k * 22) 22 := by
  have hat := h.at'
  have hth : W.there g (k * 22) 22 := fun j hj => by
    obtain ⟨_, cur, hb, hc⟩ := h
    refine ⟨?_, hb.frozen _⟩
    rw [hb.cell, hc (k * 22 + j) _ (by rw [itsC_at l k j _ (List.getElem?_eq_getElem hk) hj]; exact List.getElem?_eq_getElem (by rw [itA_len]; exact hj))]
    rfl
  refine ⟨fun i t hi => ⟨g, 0, rfl, by
    obtain ⟨_, cur, hb, _⟩ := h
    have := (below_cells (Nat.le_refl W.heap.size) (itA x).toList (k * 22) W (Below.refl _ _)).size
    have h2 := (below_cells (B := 0) (b := g) (Nat.zero_le _) (itA x).toList (k * 22) W (Below.refl 0 W)).size
    have := hb.lt
    omega, fun j v hv => ?_⟩, hth⟩
  have hj : j < 22 := (List.getElem?_eq_some_iff.1 hv).1
  rw [Nat.zero_add]
  by_cases e : k = i
  · subst e
    rw [List.getElem?_set_self hk] at hi
    have hi := Option.some.inj hi
    subst hi
    exact World.rangeAt_setCells_same W g (k * 22) (itA x).toList (by rw [itA_len]; exact hth) j v hv
  · rw [List.getElem?_set_ne e] at hi
    have hr : W.rangeAt g (i * 22) (itA t).toList := fun j v hv => by
      obtain ⟨b, o, eb, _, hc⟩ := hat i t hi
      injection eb with eb
      injection eb with e1 e2
      subst e1 e2
      have := hc j v hv
      rwa [Nat.zero_add] at this
    exact World.rangeAt_setCells_apart hr g (k * 22) (itA x).toList (.inr (by rw [itA_len, itA_len]; omega)) j v hv
theorem go_storeM {ops : Array Oper} {rest : List Oper} {a : Act} {w : World} {Q : Exit → Act → World → Prop} {dst : Option Tmp} {ty0 : TypeId} {pos : String} {after : Array Edge} (x y : Operand) (g o : Nat) (i : It) (hx : a.eval x = .pointer (some ⟨g, o, none⟩)) (hy : a.eval y = .agg (itA i)) (hth : w.there g o 22)
    (h : wpList Tryz.prog ops Q rest (a.put dst undef) (w.setCells g o (itA i).toList)) : wpList Tryz.prog ops Q (⟨dst, .store 25 x y, ty0, pos, after, none⟩ :: rest) a w :=
  wpList_store_mid rfl 25 x y rfl g o (itA i) hx hy hth (by kernel_rfl) (itA_one i) h
end Go.Proofs.YtefdjdipbnnoaaaGreatDoor
