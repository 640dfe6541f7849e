/-
  Items in memory; canon.Check and its plain form. Any list.
  canon.Check: any list.
  cncref17.Valid answers as canon.Valid. Any item.
-/
import Derived.Test.YtefdjdipbnnoaaaGreatDoorPlanF17
import Derived.Test.YtefdjdipbnnoaaaGreatDoorHeldM
namespace Go.Proofs.YtefdjdipbnnoaaaGreatDoor
open Go Go.RowKit
set_option linter.unusedVariables false
set_option linter.unusedSimpArgs false

theorem itA_len (i : It) : (itA i).toList.length = 22 := rfl
/-- The items lie in memory. -/
def ItsAt (W : World) (a : Option Addr) (l : List It) : Prop := ∀ i t, l[i]? = some t → ∃ b o, a = some ⟨b, o, none⟩ ∧ b < W.heap.size ∧ ∀ j v, (itA t).toList[j]? = some v → W.cell? ⟨b, o + i * 22 + j, none⟩ = some v
theorem ItsAt.below {W W' : World} {a : Option Addr} {l : List It} (h : ItsAt W a l) (hb : Below W.heap.size W W') : ItsAt W' a l := fun i t hi => by
  obtain ⟨b, o, e, hl, hc⟩ := h i t hi
  exact ⟨b, o, e, by have := hb.size; omega, fun j v hv => (hb.cell (p := ⟨b, o + i * 22 + j, none⟩) hl).trans (hc j v hv)⟩
theorem ItsAt.nil (W : World) (a : Option Addr) : ItsAt W a [] := fun i t hi => by simp at hi
def itsC : List It → List Value
  | [] => []
  | t :: l => (itA t).toList ++ itsC l
theorem itsC_append : ∀ (l m : List It), itsC (l ++ m) = itsC l ++ itsC m
  | [], m => rfl
  | t :: l, m => by simp [itsC, itsC_append l m]
theorem itsC_snoc (l : List It) (t : It) : itsC (l ++ [t]) = itsC l ++ (itA t).toList := by rw [itsC_append]; simp [itsC]
theorem itsC_length : ∀ (l : List It), (itsC l).length = l.length * 22
  | [] => rfl
  | t :: l => by simp [itsC, itsC_length l, itA_size]; omega
theorem itsC_at : ∀ (l : List It) (i j : Nat) (t : It), l[i]? = some t → j < 22 → (itsC l)[i * 22 + j]? = (itA t).toList[j]?
  | [], i, j, t, h, _ => by simp at h
  | x :: l, 0, j, t, h, hj => by
    obtain rfl : x = t := by simpa using h
    simp only [itsC, Nat.zero_mul, Nat.zero_add]
    rw [List.getElem?_append_left (by rw [itA_len]; exact hj)]
  | x :: l, i + 1, j, t, h, hj => by
    have := itsC_at l i j t (by simpa using h) hj
    simp only [itsC]
    rw [List.getElem?_append_right (by rw [itA_len]; omega), itA_len, ← this]
    congr 1
    omega
theorem its_own {W : World} {base : Nat} {v : Value} {l : List It} (h : W.ownsRow base 25 22 v l.length (itsC l)) : ∃ a c, v = .slice a l.length c ∧ ItsAt W a l ∧ (a = none → l.length = 0 ∧ c = 0) := by
  rcases h.2 with ⟨rfl, e⟩ | ⟨g, cap, cur, rfl, hb, _⟩
  · refine ⟨none, 0, by rw [e], fun i t hi => ?_, fun _ => ⟨e, rfl⟩⟩
    have := (List.getElem?_eq_some_iff.1 hi).1
    omega
  · refine ⟨_, _, rfl, fun i t hi => ⟨g, 0, rfl, (h.lt g rfl).2, fun j v hv => ?_⟩, fun e => by cases e⟩
    have hlt := (List.getElem?_eq_some_iff.1 hi).1
    have hj : j < 22 := (List.getElem?_eq_some_iff.1 hv).1
    rw [Nat.zero_add, h.cellAt _ (by omega), itsC_at l i j t hi hj]
    exact hv
def itKinds : List Kind := [.int .i64, .int .i64, .int .i64, .int .i64, .int .i64, .int .i64, .int .i64, .int .i64, .int .i64, .int .i64, .int .i64, .int .i64, .int .i64, .bool, .int .i64, .bool, .int .i64, .int .i64, .int .i64, .int .i64, .int .i64, .bool]
theorem it_leaves {W : World} {l : List Value} (hl : Leaves W itKinds l) : ∃ t : It, l = (itA t).toList := by
  have hlen := hl.len
  unfold itKinds at hl hlen
  match l, hl, hlen with
  | [v0, v1, v2, v3, v4, v5, v6, v7, v8, v9, v10, v11, v12, v13, v14, v15, v16, v17, v18, v19, v20, v21], hl, _ =>
    obtain ⟨h0, h1, h2, h3, h4, h5, h6, h7, h8, h9, h10, h11, h12, h13, h14, h15, h16, h17, h18, h19, h20, h21, _⟩ := hl
    cases h0; cases h1; cases h2; cases h3; cases h4; cases h5; cases h6; cases h7; cases h8; cases h9; cases h10; cases h11; cases h12; cases h13; cases h14; cases h15; cases h16; cases h17; cases h18; cases h19; cases h20; cases h21
    exact ⟨⟨_, _, _, _, _, _, _, _, _, _, _, _, _, _, _, _, _, _, _, _, _, _⟩, rfl⟩
/-- A list that came in. -/
theorem its_tab {W : World} {a : Option Addr} {len cap : Nat} (h : Leaf W (.tab itKinds) (.slice a len cap)) : ∃ l : List It, l.length = len ∧ ItsAt W a l ∧ len ≤ 9223372036854775807 := by
  obtain ⟨f, hT, hL, hmax, _⟩ := TabAt.of_leaf (C := 22) h rfl (by omega)
  have hev : ∀ i, i < len → ∃ e : It, f i = (itA e).toList := fun i hi => it_leaves (hL i hi)
  have hch : ∃ g : Nat → It, ∀ i, i < len → f i = (itA (g i)).toList := by
    refine ⟨fun i => if hi : i < len then Classical.choose (hev i hi) else ⟨0, 0, 0, 0, 0, 0, 0, 0, 0, 0, 0, 0, 0, false, 0, false, 0, 0, 0, 0, 0, false⟩, fun i hi => ?_⟩
    simp only [hi, dif_pos]
    exact Classical.choose_spec (hev i hi)
  obtain ⟨g, hg⟩ := hch
  refine ⟨(List.range len).map g, by simp, fun i t hi => ?_, hmax⟩
  obtain ⟨hil, e⟩ := List.getElem?_eq_some_iff.1 hi
  simp at hil e
  obtain ⟨_, b, o, ea, hlt, hc⟩ := hT i hil
  refine ⟨b, o, ea, hlt, fun j v hv => ?_⟩
  have hj : j < 22 := (List.getElem?_eq_some_iff.1 hv).1
  rw [hc j hj, hg i hil, e]
  exact hv
section
variable {ops : Array Oper} {rest : List Oper} {a : Act} {w : World} {Q : Exit → Act → World → Prop} {dst : Option Tmp} {ty0 : TypeId} {pos : String} {after : Array Edge}
/-- An item of a list is read. -/
theorem go_loadM (x : Operand) (b o : Nat) (i : It) (hx : a.eval x = .pointer (some ⟨b, o, none⟩)) (hI : ∀ j v, (itA i).toList[j]? = some v → w.cell? ⟨b, o + j, none⟩ = some v) (h : wpList Tryz.prog ops Q rest (a.put dst (.agg (itA i))) w) : wpList Tryz.prog ops Q (⟨dst, .load 25 x, ty0, pos, after, none⟩ :: rest) a w :=
  wpList_load_mid rfl 25 x rfl b o hx (itA i).toList _ (fun j v hv => hI j v hv) Tryz.underlying25 rfl (by kernel_rfl) (by simpa using h)
end
/-! ### The plain form of Check -/
abbrev V3 := Int × Int × Int
def It.from3 (i : It) : V3 := (i.fx, i.fy, i.fz)
def It.to3 (i : It) : V3 := (i.tx, i.ty, i.tz)
def chk : List It → Nat → Bool → Bool → V3 → Nat × Int
  | [], i, _, _, _ => (i, 0)
  | x :: l, i, en, mv, p => if validI x = false then (i, 1) else if en = true ∨ (motK x.kind = true ∧ mv = true ∧ x.from3 ≠ p) then (i, 13) else chk l (i + 1) (decide (x.kind = 14)) (mv || motK x.kind) (if motK x.kind then x.to3 else p)
/-- canon.Check. -/
def checkL (l : List It) : Nat × Int := if 20000 < l.length then (0, 10) else chk l 0 false false (0, 0, 0)
theorem chk_drop {l : List It} {k : Nat} {x : It} (h : l[k]? = some x) (en mv : Bool) (p : V3) : chk (l.drop k) k en mv p = if validI x = false then (k, 1) else if en = true ∨ (motK x.kind = true ∧ mv = true ∧ x.from3 ≠ p) then (k, 13) else chk (l.drop (k + 1)) (k + 1) (decide (x.kind = 14)) (mv || motK x.kind) (if motK x.kind then x.to3 else p) := by
  obtain ⟨hlt, e⟩ := List.getElem?_eq_some_iff.1 h
  rw [List.drop_eq_getElem_cons hlt, e]
  rfl
end Go.Proofs.YtefdjdipbnnoaaaGreatDoor

namespace Go.Proofs.YtefdjdipbnnoaaaGreatDoor
open Go Go.RowKit
set_option linter.unusedVariables false
set_option linter.unusedSimpArgs false

def eqV (x y z x' y' z' : Int) : Bool := decide (x = x' ∧ y = y' ∧ z = z')
theorem neqv_run (x y z x' y' z' : Int) (W : World) : (binOp .neq 23 (.agg #[.int .i64 x, .int .i64 y, .int .i64 z]) (.agg #[.int .i64 x', .int .i64 y', .int .i64 z'])).run Tryz.prog W = .ok (.bool (!eqV x y z x' y' z')) W := by
  go_simp
  simp only [eqV, if_and]
  split
  · rename_i h
    rw [decide_eq_true (by simpa only [and_assoc] using h)]
    rfl
  · rename_i h
    rw [decide_eq_false (by simpa only [and_assoc] using h)]
    rfl
section
variable {P : Program} {ops : Array Oper} {rest : List Oper} {a : Act} {w : World} {Q : Exit → Act → World → Prop} {dst : Option Tmp} {ty0 : TypeId} {pos : String} {after : Array Edge} {gd : Nat × Bool}
theorem gd_neq (t t' : TypeId) (x y : Operand) (xs ys : Array Value) (b : Bool) (hw : Region.wanted ⟨dst, .binOp .neq t x y t', ty0, pos, after, some gd⟩ (yielded ops a.tmps) = true) (hx : a.eval x = .agg xs) (hy : a.eval y = .agg ys)
    (hm : P.eqGuardType P.depth t = false) (hr : (binOp .neq t (.agg xs) (.agg ys)).run P w = .ok (.bool b) w) (h : wpList P ops Q rest (a.put dst (.bool b)) w) : wpList P ops Q (⟨dst, .binOp .neq t x y t', ty0, pos, after, some gd⟩ :: rest) a w :=
  gd_of_wp hw fun K hK => wo_binop .neq t t' x y (.bool b) (by simp only [hx, hy, Sem.run_bind, run_eqGuard_agg _ _ _ _ _ _ _ hm, Result.andThen_ok, hr]) (hK _ _ h)
end
def v3A (p : V3) : Array Value := #[.int .i64 p.1, .int .i64 p.2.1, .int .i64 p.2.2]
attribute [local go_sem] itA_0 itA_1 itA_2 itA_3 itA_4 itA_5 itA_6 itA_7 itA_8 itA_9 itA_10 itA_11 itA_12 itA_13 itA_14 itA_15 itA_16 itA_17 itA_18 itA_19 itA_20 itA_21
set_option maxRecDepth 100000 in
set_option maxHeartbeats 4000000 in
theorem check_any (a : Option Addr) (c : Nat) (l : List It) (w : World) (h : ItsAt w a l) (hn : l.length ≤ 9223372036854775807) :
    Calls Tryz.prog 23 #[.slice a l.length c] w fun e w' => e = .returned (.tuple #[.int .i64 (checkL l).1, .int .i64 (checkL l).2]) ∧ Below w.heap.size w w' := by
  obtain ⟨n, hln⟩ : ∃ n, l.length = n := ⟨_, rfl⟩
  by_cases h32 : 20000 < n
  · have d1 : decide (20000 < n) = true := by simpa using h32
    have d1' : decide (20000 < (n : Int)) = true := by simp; omega
    have R : checkL l = (0, 10) := by unfold checkL; rw [hln, if_pos h32]
    rw [R, hln]
    clear hln hn h32 h R
    go_enter Tryz.func23, Tryz.ntmps23
    go_wp2
    go_ret2
    exact ⟨rfl, Below.refl _ _⟩
  · have d1 : decide (20000 < n) = false := by simpa using h32
    have d1' : decide (20000 < (n : Int)) = false := by simp; omega
    have R : checkL l = chk l 0 false false (0, 0, 0) := by unfold checkL; rw [hln, if_neg h32]
    have HG := Lib.hid (fun k (hk : k < n) => (⟨l[k]'(by omega), List.getElem?_eq_getElem _⟩ : ∃ x, l[k]? = some x))
    have HLN := Lib.hid hln
    have H := Lib.hid h
    rw [R, hln]
    obtain ⟨res, hres⟩ : ∃ r, chk l 0 false false (0, 0, 0) = r := ⟨_, rfl⟩
    rw [hres]
    have HRES := Lib.hid hres
    clear hln h R hres
    have hn2 : n ≤ 20000 := by omega
    go_enter Tryz.func23, Tryz.ntmps23
    go_wp2
    go_loopw [4, 5, 16] (fun s4 s5 s16 wr => ∃ (k : Nat) (en mv : Bool) (p : V3), k ≤ n ∧ s4 = .bool en ∧ s5 = .bool mv ∧ s16 = .int .i64 k ∧ chk (l.drop k) k en mv p = res ∧ Blk wr w.heap.size 23 (v3A p) ∧ Below w.heap.size w wr)
      (fun _ _ s16 _ => n - (intOf s16).toNat)
    case atStart => exact ⟨0, false, false, (0, 0, 0), by omega, rfl, rfl, rfl, HRES.out, Blk.new w _ _, by (repeat (first | exact Below.refl _ _ | refine Below.drew ?_ | refine Below.alloc ?_ (by first | exact Nat.le_refl _ | (simp; done) | (simp; omega)) _ | refine Below.setCell ?_ (by first | exact Nat.le_refl _ | (simp; done) | (simp; omega)) _))⟩
    case round =>
      obtain ⟨k, en, mv, p, hk, rfl, rfl, rfl, hv, hp, bel⟩ := hrel
      have hsz := bel.size
      have hlt0 := hp.lt
      by_cases hlt : k < n
      · obtain ⟨x, hx⟩ := HG.out k hlt
        have e1 : decide (k < n) = true := by simpa using hlt
        have hst := chk_drop hx en mv p
        rw [hv] at hst
        have HST := Lib.hid hst
        obtain ⟨b, o, rfl, _, hc⟩ := H.out.below (bel.mono (Nat.le_refl _)) k x hx
        have HC := Lib.hid hc
        have i1 : (0 : Int) ≤ (k : Int) := by omega
        have i2 : (k : Int) < (n : Int) := by omega
        obtain ⟨W5, hW5⟩ : ∃ W, (wr.alloc (.cells (itA zeroI) 25)).setRow wr.heap.size (itA x) = W := ⟨_, rfl⟩
        have A5 : ItAt W5 wr.heap.size x := by rw [← hW5]; exact ItAt.row (ItAt.new wr zeroI) _
        have P5 : Blk W5 w.heap.size 23 (v3A p) := by rw [← hW5]; exact Blk.rowFar (hp.alloc _) (by omega) _
        have B5 : Below w.heap.size w W5 := by rw [← hW5]; exact below_row (bel.alloc (by omega) _) (by omega) _
        have lt5 := A5.lt
        have A5 := Lib.hid A5
        have P5 := Lib.hid P5
        have B5 := Lib.hid B5
        clear hst hv hp bel hc hx
        go_upto_region 7 with (first
          | ((with_reducible refine go_loadM (.tmp 19) b (o + k * 22) x (by with_unfolding_all rfl) HC.out ?_))
          | ((with_reducible refine go_allocI ?_))
          | ((with_reducible refine go_storeI (.tmp 8) (.tmp 20) wr.heap.size x zeroI (by with_unfolding_all rfl) (by with_unfolding_all rfl) (ItAt.new _ _) ?_)))
        rw [hW5]
        have KM := Lib.hid (fun W => motionK_any x.kind W)
        have KV := Lib.hid (fun W => cvalid_any x W)
        obtain ⟨mt, hmt⟩ : ∃ b, motK x.kind = b := ⟨_, rfl⟩
        obtain ⟨vl, hvl⟩ : ∃ b, validI x = b := ⟨_, rfl⟩
        rw [hmt] at KM HST
        rw [hvl] at KV HST
        have hst := HST.out
        clear hmt hvl HST
        have HST := Lib.hid hst
        have c0 := A5.out.c0
        clear hW5 hst
        go_wp2_with fail
        refine (KM.out _).mono ?_
        rintro e w' ⟨rfl, rfl⟩
        go_wp2_with ((with_reducible refine go_loadI (.tmp 8) wr.heap.size x (by with_unfolding_all rfl) A5.out ?_))
        refine (KV.out _).mono ?_
        rintro e w6 ⟨rfl, b6⟩
        have A6 : ItAt w6 wr.heap.size x := A5.out.below b6
        have P6 := P5.out.below b6 P5.out.lt
        have B6 : Below w.heap.size w w6 := B5.out.trans (b6.mono B5.out.size)
        have lt6 := A6.lt
        clear A5 P5 B5 b6 c0
        have A6 := Lib.hid A6
        have P6 := Lib.hid P6
        have B6 := Lib.hid B6
        cases vl
        · have EE : res = (k, 1) := by rw [HST.out]; rfl
          go_wp2_with fail
          go_ret2
          exact ⟨by rw [EE]; rfl, B6.out⟩
        have HST2 := Lib.hid (HST.out.trans (if_neg (by simp)))
        clear HST
        have c0 := A6.out.c0
        have c2 := A6.out.c2
        have c3 := A6.out.c3
        have c4 := A6.out.c4
        have p0 : w6.cell? ⟨w.heap.size, 0, none⟩ = some (.int .i64 p.1) := P6.out.cell' 0 rfl
        have p1 : w6.cell? ⟨w.heap.size, 1, none⟩ = some (.int .i64 p.2.1) := P6.out.cell' 1 rfl
        have p2 : w6.cell? ⟨w.heap.size, 2, none⟩ = some (.int .i64 p.2.2) := P6.out.cell' 2 rfl
        cases en
        rotate_left
        · have EE : res = (k, 13) := by rw [HST2.out, if_pos (.inl rfl)]
          go_wp2_with fail
          go_ret2
          exact ⟨by rw [EE]; rfl, B6.out⟩
        cases mt
        · have HST3 := Lib.hid (HST2.out.trans (if_neg (by simp)))
          clear HST2
          go_wp2_with fail
          go_roundw
          case rel => exact ⟨k + 1, (x.kind == 14), mv, p, by omega, rfl, rfl, by rfl, by have := HST3.out; rw [Bool.or_false, if_neg (by simp)] at this; exact this.symm, P6.out, B6.out⟩
          case measure => simp [intOf]; omega
        cases mv
        · have HST3 := Lib.hid (HST2.out.trans (if_neg (by simp)))
          clear HST2
          go_wp2_with fail
          refine wp_region_held_drew (S := fun W => W.cell? ⟨wr.heap.size, 5, none⟩ = some (.int .i64 x.tx) ∧ W.cell? ⟨wr.heap.size, 6, none⟩ = some (.int .i64 x.ty) ∧ W.cell? ⟨wr.heap.size, 7, none⟩ = some (.int .i64 x.tz)) (by kernel_rfl) ⟨A6.out.c5, A6.out.c6, A6.out.c7⟩ fun hS0 => ?_
          refine take_first 0 (v := .pointer (some ⟨wr.heap.size, 5, none⟩)) rfl (by kernel_rfl) (by kernel_rfl) (by kernel_rfl) (fun _ _ _ h => h) rfl (fun W' hW' => by go_simp) hS0 ?_
          refine take_first 1 (v := .agg #[.int .i64 x.tx, .int .i64 x.ty, .int .i64 x.tz]) rfl (by kernel_rfl) (by kernel_rfl) (by kernel_rfl) (fun _ _ _ h => h) rfl (fun W' hW' => by obtain ⟨q0, q1, q2⟩ := hW'; go_simp) hS0 ?_
          refine one_next 2 (by kernel_rfl) rfl rfl fun K2 hK2 => ?_
          have HK2 := Lib.hid hK2
          clear hK2
          go_simp
          refine HK2.out _ _ hS0 ?_
          have f0 := P6.out.frozen 0
          have f1 := P6.out.frozen 1
          have f2 := P6.out.frozen 2
          have A7 := ItAt.far (ItAt.far (ItAt.far A6.out.drew (p := ⟨w.heap.size, 0, none⟩) (by show wr.heap.size ≠ w.heap.size; omega) (.int .i64 x.tx)) (p := ⟨w.heap.size, 1, none⟩) (by show wr.heap.size ≠ w.heap.size; omega) (.int .i64 x.ty)) (p := ⟨w.heap.size, 2, none⟩) (by show wr.heap.size ≠ w.heap.size; omega) (.int .i64 x.tz)
          have A7 := Lib.hid A7
          refine one_next 3 (by kernel_rfl) rfl rfl fun K3 hK3 => ?_
          have HK3 := Lib.hid hK3
          clear hK3
          go_simp
          refine HK3.out _ _ ⟨A7.out.c5, A7.out.c6, A7.out.c7⟩ ?_
          refine wpAnyH_done (by kernel_rfl) ?_ _
          refine on_told (fun W => Blk W w.heap.size 23 (v3A x.to3) ∧ Below w.heap.size w W) ⟨((P6.out.drew.put 0 _).put 1 _).put 2 _, ((B6.out.drew.setCell (Nat.le_refl _) _).setCell (Nat.le_refl _) _).setCell (Nat.le_refl _) _⟩ ?_
          clear f0 f1 f2 p0 p1 p2 A7 HK2 HK3 hS0 A6 P6 B6
          rintro W8 ⟨P8, B8⟩
          have P8 := Lib.hid P8
          have B8 := Lib.hid B8
          go_simp
          go_wp2_with fail
          go_roundw
          case rel => exact ⟨k + 1, (x.kind == 14), true, x.to3, by omega, rfl, rfl, by rfl, by have := HST3.out; simp only [Bool.or_true, if_true] at this; exact this.symm, P8.out, B8.out⟩
          case measure => simp [intOf]; omega
        obtain ⟨ev, hev⟩ : ∃ b, eqV x.fx x.fy x.fz p.1 p.2.1 p.2.2 = b := ⟨_, rfl⟩
        have NR := fun W => neqv_run x.fx x.fy x.fz p.1 p.2.1 p.2.2 W
        rw [hev] at NR
        have NR := Lib.hid NR
        cases ev
        · have hne : x.from3 ≠ p := fun h => of_decide_eq_false hev (by rw [← h]; exact ⟨rfl, rfl, rfl⟩)
          have EE : res = (k, 13) := by rw [HST2.out, if_pos (.inr ⟨rfl, rfl, hne⟩)]
          clear hev
          go_wp2_with ((with_reducible refine gd_neq 23 _ (.tmp 38) (.tmp 39) #[.int .i64 x.fx, .int .i64 x.fy, .int .i64 x.fz] #[.int .i64 p.1, .int .i64 p.2.1, .int .i64 p.2.2] true (by with_unfolding_all rfl) rfl rfl (by kernel_rfl) (NR.out _) ?_))
          go_ret2
          exact ⟨by rw [EE]; rfl, B6.out⟩
        · have HST3 := Lib.hid (HST2.out.trans (if_neg (by
            rintro (h | ⟨_, _, h⟩)
            · cases h
            · obtain ⟨h3, h5, h6⟩ := of_decide_eq_true hev
              apply h
              unfold It.from3
              rw [h3, h5, h6])))
          clear HST2 hev
          go_upto_region 14 with ((with_reducible refine gd_neq 23 _ (.tmp 38) (.tmp 39) #[.int .i64 x.fx, .int .i64 x.fy, .int .i64 x.fz] #[.int .i64 p.1, .int .i64 p.2.1, .int .i64 p.2.2] false (by with_unfolding_all rfl) rfl rfl (by kernel_rfl) (NR.out _) ?_))
          go_wp2_with fail
          refine wp_region_held_drew (S := fun W => W.cell? ⟨wr.heap.size, 5, none⟩ = some (.int .i64 x.tx) ∧ W.cell? ⟨wr.heap.size, 6, none⟩ = some (.int .i64 x.ty) ∧ W.cell? ⟨wr.heap.size, 7, none⟩ = some (.int .i64 x.tz)) (by kernel_rfl) ⟨A6.out.c5, A6.out.c6, A6.out.c7⟩ fun hS0 => ?_
          refine take_first 0 (v := .pointer (some ⟨wr.heap.size, 5, none⟩)) rfl (by kernel_rfl) (by kernel_rfl) (by kernel_rfl) (fun _ _ _ h => h) rfl (fun W' hW' => by go_simp) hS0 ?_
          refine take_first 1 (v := .agg #[.int .i64 x.tx, .int .i64 x.ty, .int .i64 x.tz]) rfl (by kernel_rfl) (by kernel_rfl) (by kernel_rfl) (fun _ _ _ h => h) rfl (fun W' hW' => by obtain ⟨q0, q1, q2⟩ := hW'; go_simp) hS0 ?_
          refine one_next 2 (by kernel_rfl) rfl rfl fun K2 hK2 => ?_
          have HK2 := Lib.hid hK2
          clear hK2
          go_simp
          refine HK2.out _ _ hS0 ?_
          have f0 := P6.out.frozen 0
          have f1 := P6.out.frozen 1
          have f2 := P6.out.frozen 2
          have A7 := ItAt.far (ItAt.far (ItAt.far A6.out.drew (p := ⟨w.heap.size, 0, none⟩) (by show wr.heap.size ≠ w.heap.size; omega) (.int .i64 x.tx)) (p := ⟨w.heap.size, 1, none⟩) (by show wr.heap.size ≠ w.heap.size; omega) (.int .i64 x.ty)) (p := ⟨w.heap.size, 2, none⟩) (by show wr.heap.size ≠ w.heap.size; omega) (.int .i64 x.tz)
          have A7 := Lib.hid A7
          refine one_next 3 (by kernel_rfl) rfl rfl fun K3 hK3 => ?_
          have HK3 := Lib.hid hK3
          clear hK3
          go_simp
          refine HK3.out _ _ ⟨A7.out.c5, A7.out.c6, A7.out.c7⟩ ?_
          refine wpAnyH_done (by kernel_rfl) ?_ _
          refine on_told (fun W => Blk W w.heap.size 23 (v3A x.to3) ∧ Below w.heap.size w W) ⟨((P6.out.drew.put 0 _).put 1 _).put 2 _, ((B6.out.drew.setCell (Nat.le_refl _) _).setCell (Nat.le_refl _) _).setCell (Nat.le_refl _) _⟩ ?_
          clear f0 f1 f2 p0 p1 p2 A7 HK2 HK3 hS0 A6 P6 B6
          rintro W8 ⟨P8, B8⟩
          have P8 := Lib.hid P8
          have B8 := Lib.hid B8
          go_simp
          go_wp2_with fail
          go_roundw
          case rel => exact ⟨k + 1, (x.kind == 14), true, x.to3, by omega, rfl, rfl, by rfl, by have := HST3.out; simp only [Bool.or_true, if_true] at this; exact this.symm, P8.out, B8.out⟩
          case measure => simp [intOf]; omega
      · obtain rfl : k = n := by omega
        have e1 : decide (k < k) = false := by simp
        have EE : res = (k, 0) := by
          rw [← hv, List.drop_eq_nil_of_le (by have := HLN.out; omega)]
          rfl
        have BEL := Lib.hid bel
        clear bel hv hp
        go_wp2_with fail
        go_ret2
        exact ⟨by rw [EE]; rfl, BEL.out⟩
end Go.Proofs.YtefdjdipbnnoaaaGreatDoor

namespace Go.Proofs.YtefdjdipbnnoaaaGreatDoor
open Go Go.RowKit
set_option linter.unusedVariables false
set_option linter.unusedSimpArgs false

theorem rvalid_v (i : It) (w : World) : Calls Tryz.prog 28 #[.agg (itA i)] w fun e w' => e = .returned (.bool (validI i)) ∧ Below w.heap.size w w' := by
  rw [← rval_eq]
  exact rvalid_any i w
end Go.Proofs.YtefdjdipbnnoaaaGreatDoor
