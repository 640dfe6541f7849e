/-
  cnclaw17.CanonExtent: the walk.
-/
import Derived.Test.YtefdjdipbnnoaaaGreatDoorAwake17
import Derived.Test.YtefdjdipbnnoaaaGreatDoorStageF17
import Derived.Test.YtefdjdipbnnoaaaGreatDoorEnd17
import Derived.Test.YtefdjdipbnnoaaaGreatDoorRExt17
import Derived.Test.YtefdjdipbnnoaaaGreatDoorRCOut17
import Derived.Test.YtefdjdipbnnoaaaGreatDoorPlanX17
import Derived.Test.YtefdjdipbnnoaaaGreatDoorArgs
namespace Go.Proofs.YtefdjdipbnnoaaaGreatDoor
open Go Go.RowKit
set_option linter.unusedVariables false
set_option linter.unusedSimpArgs false

theorem rext_ok : RExtOK := fun i W hv hm => by
  have := rext_any i (fun hk => arcE_arg (valid_arcE hv hk)) W
  rw [rext_eq hv] at this
  exact this
theorem good_valid : ∀ {l : List It} {p : V3}, Good p l → ∀ t ∈ l, validI t = true
  | [], _, _, t, ht => by simp at ht
  | x :: l, p, h, t, ht => by
    obtain ⟨h1, _, _, h4⟩ := h
    rcases List.mem_cons.1 ht with rfl | ht
    · exact h1
    · exact good_valid h4 t ht
def btw (lo hi v : Int) : Int := lo + v % (hi - lo + 1)
/-- A vector in a block. -/
def VB (W : World) (b : Nat) (q : V3) : Prop := Blk W b 23 #[.int .i64 q.1, .int .i64 q.2.1, .int .i64 q.2.2]
theorem VB.load {W : World} {b : Nat} {q : V3} (h : VB W b q) : (Instr.loadAt 23 (.pointer (some ⟨b, 0, none⟩))).run Tryz.prog W = .ok (.agg #[.int .i64 q.1, .int .i64 q.2.1, .int .i64 q.2.2]) W :=
  load_of (cs := [.int .i64 q.1, .int .i64 q.2.1, .int .i64 q.2.2]) h Tryz.underlying23 rfl (by kernel_rfl)
/-- What stands behind the stage: its world is kept, and vectors lie in new blocks. -/
structure ZT (w2 : World) (bs : List (Nat × V3)) (W : World) : Prop where
  b2 : Below w2.heap.size w2 W
  bl : ∀ p ∈ bs, w2.heap.size ≤ p.1 ∧ VB W p.1 p.2
section
variable {w2 W W' : World} {bs : List (Nat × V3)}
theorem ZT.below (h : ZT w2 bs W) (b : Below W.heap.size W W') : ZT w2 bs W' := ⟨h.b2.trans (b.mono h.b2.size), fun p hp => ⟨(h.bl p hp).1, Blk.below (h.bl p hp).2 b (Blk.lt (h.bl p hp).2)⟩⟩
theorem ZT.drew (h : ZT w2 bs W) : ZT w2 bs W.drew := h.below (Below.refl _ _).drew
theorem ZT.alloc (h : ZT w2 bs W) (o : Obj) : ZT w2 bs (W.alloc o) := h.below ((Below.refl _ _).alloc (Nat.le_refl _) _)
theorem ZT.cons (h : ZT w2 bs W) {P : Nat} {q : V3} (hP : w2.heap.size ≤ P) (hq : VB W P q) : ZT w2 ((P, q) :: bs) W := ⟨h.b2, fun p hp => by
  rcases List.mem_cons.1 hp with rfl | hp
  · exact ⟨hP, hq⟩
  · exact h.bl p hp⟩
theorem ZT.far (h : ZT w2 bs W) {P : Nat} (hP : w2.heap.size ≤ P) (hne : ∀ p ∈ bs, p.1 ≠ P) (k : Nat) (u : Value) : ZT w2 bs (W.setCell ⟨P, k, none⟩ u) :=
  ⟨h.b2.setCell (by exact hP) u, fun p hp => ⟨(h.bl p hp).1, Blk.skip (h.bl p hp).2 (by exact hne p hp) u⟩⟩
end
def zR (B : Nat) (w w' : World) : Prop := Below B w w' ∧ ∀ b, B ≤ b → Blk w b 23 #[.int .i64 0, .int .i64 0, .int .i64 0] → Blk w' b 23 #[.int .i64 0, .int .i64 0, .int .i64 0]
theorem zR_refl (B : Nat) (w : World) : zR B w w := ⟨Below.refl _ _, fun _ _ h => h⟩
def zG (B src : Nat) (x y z lo hi : Int) : Nat → Value → World → Prop
  | 0, v, _ => v = .pointer (some ⟨src, 0, none⟩)
  | 1, v, _ => v = .int .i64 x
  | 2, v, _ => v = .int .i64 (btw lo hi x)
  | 3, v, _ => v = .pointer (some ⟨src, 1, none⟩)
  | 4, v, _ => v = .int .i64 y
  | 5, v, _ => v = .int .i64 (btw lo hi y)
  | 6, v, _ => v = .pointer (some ⟨src, 2, none⟩)
  | 7, v, _ => v = .int .i64 z
  | 8, v, _ => v = .int .i64 (btw lo hi z)
  | 9, v, _ => v = .agg #[.int .i64 (btw lo hi x), .int .i64 (btw lo hi y), .int .i64 (btw lo hi z)]
  | 10, v, w => ∃ b, v = .pointer (some ⟨b, 0, none⟩) ∧ B ≤ b ∧ Blk w b 23 #[.int .i64 0, .int .i64 0, .int .i64 0]
  | _, _, _ => True
theorem its_one {W : World} {g : Nat} {t : It} (h : ItAt W g t) : ItsAt W (some ⟨g, 0, none⟩) [t] := fun i x hi => by
  cases i with
  | succ i => simp at hi
  | zero =>
    have hi := Option.some.inj hi
    subst hi
    refine ⟨g, 0, rfl, h.lt, fun j v hv => ?_⟩
    rw [show 0 + 0 * 22 + j = j by omega, Blk.cell h]
    rw [← Array.getElem?_toList]
    exact hv
theorem quiet_eql {P : Program} {C : World → Prop} {o : Oper} {a : Act} {K : Act → Prop} (t t' : TypeId) (x y : Operand) (h : o.op = .binOp .eql t x y t') (xs ys : Array Value) (b : Bool) (hx : a.eval x = .agg xs) (hy : a.eval y = .agg ys)
    (hm : P.eqGuardType P.depth t = false) (hr : ∀ w, (binOp .eql t (.agg xs) (.agg ys)).run P w = .ok (.bool b) w) (hk : K (a.put o.dst (.bool b))) : o.quiet P a C K :=
  ⟨.bool b, fun w _ => by
    unfold Oper.quietAt execOp
    simp only [h, hx, hy, Sem.run_bind, run_eqGuard_agg _ _ _ _ _ _ _ hm, hr w, Result.andThen_ok, Sem.run_pure]
    exact ⟨rfl, rfl⟩, hk⟩
theorem vec_self (q : V3) (W : World) : (binOp .eql 23 (.agg #[.int .i64 q.1, .int .i64 q.2.1, .int .i64 q.2.2]) (.agg #[.int .i64 q.1, .int .i64 q.2.1, .int .i64 q.2.2])).run Tryz.prog W = .ok (.bool true) W := by
  go_simp
theorem exec_itemX {a : Act} {w : World} {o : Oper} (x : Operand) (g : Nat) (i : It) (ho : o.op = .load 25 x) (hx : a.eval x = .pointer (some ⟨g, 0, none⟩)) (hI : ItAt w g i) : (execOp a.eval o).run Tryz.prog w = .ok (.value (.agg (itA i))) w := by
  have hl : (Instr.loadAt 25 (.pointer (some ⟨g, 0, none⟩))).run Tryz.prog w = .ok (.agg (itA i)) w := load_of (cs := (itA i).toList) hI Tryz.underlying25 rfl (by kernel_rfl)
  unfold execOp
  simp only [ho, hx, Sem.run_bind, hl, Result.andThen_ok, Sem.run_pure]
section
variable {a : Act} {w : World} {K : Act → World → Prop} {Q : Exit → Act → World → Prop} {dst : Option Tmp} {ty0 : TypeId} {pos : String} {after : Array Edge} {gd : Option (Nat × Bool)}
theorem wo_bslX {P : Program} (t e : TypeId) (len : Nat) (parts : Array (Nat × Operand)) (cells : Array Value) (ie : TypeInfo) (z : Value)
    (hu : P.underlying t = some (.slice e)) (hie : P.info? e = some ie) (hz : ie.zero = some z) (hsmall : ¬ len * ie.size > 2 ^ 24) (hpos : ¬ len * ie.size = 0)
    (hf : Instr.fill (fun i => some (i * ie.size, ie.size)) ((Array.range (len * ie.size)).map (z.cells[· % z.cells.size]!)) (parts.map fun (i, x) => (i, a.eval x)).toList = some cells)
    (h : K (a.put dst (.slice (some ⟨w.heap.size, 0, none⟩) len len)) (w.alloc (.cells cells e))) : Oper.wp P ⟨dst, .buildSlice t len parts, ty0, pos, after, gd⟩ a w K Q :=
  wp_bslice (o := ⟨dst, .buildSlice t len parts, ty0, pos, after, gd⟩) t e len parts rfl cells ie z hu hie hz hsmall hpos hf h
set_option maxRecDepth 100000 in
theorem wo_it1 (x : Operand) (i : It) (hx : a.eval x = .agg (itA i)) (h : K (a.put dst (.slice (some ⟨w.heap.size, 0, none⟩) 1 1)) (w.alloc (.cells (itA i) 25))) : Oper.wp Tryz.prog ⟨dst, .buildSlice 29 1 #[(0, x)], ty0, pos, after, gd⟩ a w K Q := by
  obtain ⟨i0, hi, hz0, hz1, hz2⟩ := info_parts infoIt
  refine wo_bslX 29 25 1 _ (itA i) i0 _ Tryz.underlying29 hi hz0 (by rw [hz1]; decide) (by rw [hz1]; decide) ?_ h
  rw [hz1]
  simp only [List.map_toArray, List.map_cons, List.map_nil, hx]
  exact it_fill _
theorem wo_itsapp (x y : Operand) {base : Nat} {v : Value} (ts : List It) (ao : Option Addr) (c : Nat) (us : List It)
    (hx : a.eval x = v) (hown : w.ownsRow base 25 22 v ts.length (itsC ts)) (hy : a.eval y = .slice ao us.length c) (h0 : ao = none → us.length = 0 ∧ c = 0) (hat : ItsAt w ao us) (hn : ts.length + us.length ≤ 1000000) (hb : base ≤ w.heap.size)
    (h : ∀ v' w', w'.ownsRow base 25 22 v' (ts ++ us).length (itsC (ts ++ us)) → w.grownBy w' v.ownBlock → K (a.put dst v') w') : Oper.wp Tryz.prog ⟨dst, .call { callee := .builtin .append, args := #[x, y], argTypes := #[29, 29] }, ty0, pos, after, gd⟩ a w K Q := by
  obtain ⟨i0, hi, hz0, hz1, hz2⟩ := info_parts infoIt
  cases ao with
  | some ad =>
    refine wp_append_own w x y 29 rfl base 25 i0 (.agg (itA zeroI)) 22 176 Tryz.underlying29 hi hz0 hz1 hz2 rfl (by decide) v ts.length (itsC ts) hx hown ad us.length c (itsC us) hy (itsC_length us) hat.cells (itsC_one us) (by unfold maxLen; omega) (by omega) hb ?_
    intro v' w' hown' hgrow _
    rw [← itsC_append, ← List.length_append] at hown'
    exact h v' w' hown' hgrow
  | none =>
    obtain ⟨h1, rfl⟩ := h0 rfl
    obtain rfl := List.length_eq_zero_iff.1 h1
    have hrun := run_append_owned_none (P := Tryz.prog) (w := w) base 29 ty0 25 i0 22 Tryz.underlying29 hi v ts.length (itsC ts) hown
    have hy : a.eval y = .slice none 0 0 := hy
    unfold Oper.wp
    simp [execOp, resolve, invoke, builtin, hx, hy, hrun, Result.andThen]
    exact h v w (by simpa using hown) (grown_refl _ _)
end
attribute [local go_sem] itA_0 itA_1 itA_2 itA_3 itA_4 itA_5 itA_6 itA_7 itA_8 itA_9 itA_10 itA_11 itA_12 itA_13 itA_14 itA_15 itA_16 itA_17 itA_18 itA_19 itA_20 itA_21
set_option maxRecDepth 100000 in
set_option maxHeartbeats 16000000 in
theorem lextent_walk (raw : It) (a1 : Option Addr) (len1 cap1 : Nat) (z1 : List Int) (lw hg st : V3) (w : World) (hE : Env w) (w1 : IsRow .i64 w a1 len1 cap1 z1) (hn : len1 ≤ 9223372036854775807) :
    Calls Tryz.prog 3 #[.agg (itA raw), .slice a1 len1 cap1, .agg #[.int .i64 lw.1, .int .i64 lw.2.1, .int .i64 lw.2.2], .agg #[.int .i64 hg.1, .int .i64 hg.2.1, .int .i64 hg.2.2], .agg #[.int .i64 st.1, .int .i64 st.2.1, .int .i64 st.2.2]] w fun e w' => e = .returned (.bool true) ∧ Below w.heap.size w w' := by
  have HE0 := Lib.hid hE
  have hlow := hE.low
  have HR1 := Lib.hid w1
  obtain ⟨z, hz⟩ : ∃ z, (fun i => z1.getD i 0) = z := ⟨_, rfl⟩
  have HZ := Lib.hid hz
  clear hE w1 hz
  go_enter Tryz.func3, Tryz.ntmps3
  go_upto_region 1 with fail
  refine wp_told (fun W => ItAt W w.heap.size raw ∧ VB W (w.heap.size + 1) lw ∧ VB W (w.heap.size + 1 + 1) hg ∧ VB W (w.heap.size + 1 + 1 + 1) st ∧ Below w.heap.size w W)
    ⟨(((ItAt.new w raw).alloc _).alloc _).alloc _, ((blk_new1 w _ _ _).alloc _).alloc _, (blk_new2 w _ _ _ _).alloc _, by
      have := Blk.new (((w.alloc (.cells (itA raw) 25)).alloc (.cells #[.int .i64 lw.1, .int .i64 lw.2.1, .int .i64 lw.2.2] 23)).alloc (.cells #[.int .i64 hg.1, .int .i64 hg.2.1, .int .i64 hg.2.2] 23)) 23 #[.int .i64 st.1, .int .i64 st.2.1, .int .i64 st.2.2]
      rw [show (((w.alloc (.cells (itA raw) 25)).alloc (.cells #[.int .i64 lw.1, .int .i64 lw.2.1, .int .i64 lw.2.2] 23)).alloc (.cells #[.int .i64 hg.1, .int .i64 hg.2.1, .int .i64 hg.2.2] 23)).heap.size = w.heap.size + 1 + 1 + 1 by simp] at this
      exact this, (by (repeat (first | exact Below.refl _ _ | refine Below.drew ?_ | refine Below.alloc ?_ (by first | exact Nat.le_refl _ | (simp; done) | (simp; omega)) _)))⟩ ?_
  rintro W0 ⟨hr0, hl0, hh0, hst0, bel0⟩
  have HR := Lib.hid hr0
  have HL := Lib.hid hl0
  have HH := Lib.hid hh0
  have HST := Lib.hid hst0
  have B0 := Lib.hid bel0
  have KL := Lib.hid (light_any W0 a1 len1 cap1)
  have kn := tape_new W0 a1 len1 cap1 z1 (HR1.out.below bel0) hn
  rw [HZ.out] at kn
  have KN := Lib.hid kn
  clear hr0 hl0 hh0 hst0 bel0 kn hn
  go_wp2_with fail
  refine KL.out.mono ?_
  rintro e w' ⟨rfl, rfl⟩
  by_cases h120 : len1 ≤ 120
  rotate_left
  · have d1 : decide (len1 ≤ 120) = false := decide_eq_false h120
    go_wp2_with fail
    refine (awake_true _ (HE0.out.below B0.out hlow)).mono ?_
    rintro e w9 ⟨rfl, b9⟩
    have BEL := Lib.hid (B0.out.trans (b9.mono B0.out.size))
    clear b9
    go_wp2_with fail
    go_ret
    exact ⟨rfl, BEL.out⟩
  have d1 : decide (len1 ≤ 120) = true := decide_eq_true h120
  go_wp2_with fail
  refine KN.out.mono ?_
  rintro e w1 ⟨rfl, hs1, b1⟩
  have sz1 := b1.size
  have B1 := Lib.hid b1
  have S1 := Lib.hid hs1
  have l1t := hs1.lt
  clear hs1 b1 KN KL
  go_wp2_with fail
  refine (sitems_any w1 W0.heap.size W0.heap.size a1 len1 cap1 z ⟨0, S1.out⟩).mono ?_
  rintro e w2 ⟨v2, L, p, rfl, hgood, hL8, hown, G2⟩
  obtain ⟨a5, c5, rfl, hat, hno⟩ := its_own hown
  have B2 : Below W0.heap.size W0 w2 := B1.out.trans (below_of_grown G2.gr (by omega) (fun k e => by injection e; omega))
  have HR2 := Lib.hid (HR.out.below B2)
  have HL2 := Lib.hid (Blk.below HL.out B2 (Blk.lt HL.out))
  have HH2 := Lib.hid (Blk.below HH.out B2 (Blk.lt HH.out))
  have HST2 := Lib.hid (Blk.below HST.out B2 (Blk.lt HST.out))
  have BX2 := Lib.hid (B0.out.trans (B2.mono B0.out.size))
  have HAT2 := Lib.hid hat
  have HNO := Lib.hid hno
  have HL8 := Lib.hid hL8
  clear hat hno hgood hown G2 S1 B1 l1t sz1 HR HL HH HST B0 B2 hL8
  obtain ⟨n, hln⟩ : ∃ n, L.length = n := ⟨_, rfl⟩
  have HLN := Lib.hid hln
  have HG := Lib.hid (fun k (hk : k < n) => (⟨L[k]'(by omega), List.getElem?_eq_getElem _⟩ : ∃ x, L[k]? = some x))
  have hn8 : n ≤ 8 := by rw [← hln]; exact HL8.out
  rw [hln]
  clear hln
  go_wp2_with fail
  go_loopw [12] (fun s12 wr => ∃ k : Nat, k ≤ n ∧ s12 = .int .i64 k ∧ Below w2.heap.size w2 wr) (fun s12 _ => n - (intOf s12).toNat)
  case atStart => exact ⟨0, by omega, rfl, Below.refl _ _⟩
  case round =>
    obtain ⟨k, hk, rfl, bel⟩ := hrel
    have BEL := Lib.hid bel
    clear bel
    by_cases hlt : k < n
    · obtain ⟨x, hx⟩ := HG.out k hlt
      have e1 : decide (k < n) = true := decide_eq_true hlt
      have e1' : decide ((k : Int) < (n : Int)) = true := decide_eq_true (by omega)
      have i1 : (0 : Int) ≤ (k : Int) := by omega
      have i2 : (k : Int) < (n : Int) := by omega
      obtain ⟨b, o, rfl, hbl, hc⟩ := HAT2.out k x hx
      have HCX := Lib.hid (fun W (hW : Below w2.heap.size w2 W) j v hv => (((hW.cell (p := ⟨b, o + k * 22 + j, none⟩) hbl).trans (hc j v hv)) : W.cell? ⟨b, o + k * 22 + j, none⟩ = some v))
      obtain ⟨p, q, hpq⟩ : ∃ p q, extC x = (p, q) := ⟨_, _, rfl⟩
      have ke := fun W => cext_any x W
      have kr := fun W => rcext_any rext_ok x W
      rw [hpq] at ke kr
      have KE : ∀ W, Calls Tryz.prog 10 #[.agg (itA x)] W fun e w' => e = .returned (.tuple #[.agg #[.int .i64 p.1, .int .i64 p.2.1, .int .i64 p.2.2], .agg #[.int .i64 q.1, .int .i64 q.2.1, .int .i64 q.2.2]]) ∧ Below W.heap.size W w' := ke
      have KR : ∀ W, Calls Tryz.prog 11 #[.agg (itA x)] W fun e w' => e = .returned (.tuple #[.agg #[.int .i64 p.1, .int .i64 p.2.1, .int .i64 p.2.2], .agg #[.int .i64 q.1, .int .i64 q.2.1, .int .i64 q.2.2]]) ∧ Below W.heap.size W w' := kr
      have KE := Lib.hid KE
      have KR := Lib.hid KR
      clear hpq ke kr hx hc hbl
      go_wp2_with ((with_reducible refine go_loadM (.tmp 40) b (o + k * 22) x (by with_unfolding_all rfl) (HCX.out _ BEL.out) ?_))
      refine (KE.out _).mono ?_
      rintro e w3 ⟨rfl, b3⟩
      have BEL3 := Lib.hid (BEL.out.trans (b3.mono BEL.out.size))
      have sz3 := BEL3.out.size
      clear b3 BEL
      go_upto_region 8 with fail
      refine wp_told (fun W => Below w2.heap.size w2 W ∧ VB W w3.heap.size p ∧ VB W (w3.heap.size + 1) q) ⟨(BEL3.out.alloc sz3 _).alloc (by simp; omega) _, (Blk.new w3 _ _).alloc _, blk_new1 w3 _ _ _⟩ ?_
      rintro W4 ⟨bel4, hp4, hq4⟩
      obtain ⟨E, hE⟩ : ∃ E, w3.heap.size = E := ⟨_, rfl⟩
      rw [hE] at hp4 hq4 ⊢
      have BEL4 := Lib.hid bel4
      have HP4 := Lib.hid hp4
      have HQ4 := Lib.hid hq4
      clear hE bel4 hp4 hq4 BEL3 sz3
      go_wp2_with ((with_reducible refine go_loadM (.tmp 48) b (o + k * 22) x (by with_unfolding_all rfl) (HCX.out _ BEL4.out) ?_))
      refine (KR.out _).mono ?_
      rintro e w5 ⟨rfl, b5⟩
      have BEL5 := Lib.hid (BEL4.out.trans (b5.mono BEL4.out.size))
      have HP5 := Lib.hid (Blk.below HP4.out b5 (Blk.lt HP4.out))
      have HQ5 := Lib.hid (Blk.below HQ4.out b5 (Blk.lt HQ4.out))
      have sz5 := BEL5.out.size
      clear b5 BEL4 HP4 HQ4
      go_upto_region 9 with fail
      refine wp_told (fun W => Below w2.heap.size w2 W ∧ VB W E p ∧ VB W (E + 1) q ∧ VB W w5.heap.size p ∧ VB W (w5.heap.size + 1) q) ⟨(BEL5.out.alloc sz5 _).alloc (by simp; omega) _, (Blk.alloc HP5.out _).alloc _, (Blk.alloc HQ5.out _).alloc _, (Blk.new w5 _ _).alloc _, blk_new1 w5 _ _ _⟩ ?_
      rintro W6 ⟨bel6, hp6, hq6, hp7, hq7⟩
      obtain ⟨F, hF⟩ : ∃ F, w5.heap.size = F := ⟨_, rfl⟩
      rw [hF] at hp7 hq7 ⊢
      have y0 : W6.cell? ⟨E, 0, none⟩ = some (.int .i64 p.1) := Blk.cell' hp6 0 rfl
      have y1 : W6.cell? ⟨E, 1, none⟩ = some (.int .i64 p.2.1) := Blk.cell' hp6 1 rfl
      have y2 : W6.cell? ⟨E, 2, none⟩ = some (.int .i64 p.2.2) := Blk.cell' hp6 2 rfl
      have y3 : W6.cell? ⟨E + 1, 0, none⟩ = some (.int .i64 q.1) := Blk.cell' hq6 0 rfl
      have y4 : W6.cell? ⟨E + 1, 1, none⟩ = some (.int .i64 q.2.1) := Blk.cell' hq6 1 rfl
      have y5 : W6.cell? ⟨E + 1, 2, none⟩ = some (.int .i64 q.2.2) := Blk.cell' hq6 2 rfl
      have y6 : W6.cell? ⟨F, 0, none⟩ = some (.int .i64 p.1) := Blk.cell' hp7 0 rfl
      have y7 : W6.cell? ⟨F, 1, none⟩ = some (.int .i64 p.2.1) := Blk.cell' hp7 1 rfl
      have y8 : W6.cell? ⟨F, 2, none⟩ = some (.int .i64 p.2.2) := Blk.cell' hp7 2 rfl
      have y9 : W6.cell? ⟨F + 1, 0, none⟩ = some (.int .i64 q.1) := Blk.cell' hq7 0 rfl
      have y10 : W6.cell? ⟨F + 1, 1, none⟩ = some (.int .i64 q.2.1) := Blk.cell' hq7 1 rfl
      have y11 : W6.cell? ⟨F + 1, 2, none⟩ = some (.int .i64 q.2.2) := Blk.cell' hq7 2 rfl
      have BEL6 := Lib.hid bel6
      clear hF bel6 hp6 hq6 hp7 hq7 BEL5 HP5 HQ5 sz5
      go_wp2_with fail
      go_roundw
      case rel => exact ⟨k + 1, by omega, by go_num, BEL6.out⟩
      case measure => simp [intOf]; omega
    · obtain rfl : k = n := by omega
      have e1 : decide (k < k) = false := by simp
      have e1' : decide ((k : Int) < (k : Int)) = false := by simp
      clear hlt hk HG
      obtain ⟨p, q, hpq⟩ : ∃ p q, extC raw = (p, q) := ⟨_, _, rfl⟩
      have ke := fun W => cext_any raw W
      have kr := fun W => rcext_any rext_ok raw W
      rw [hpq] at ke kr
      have KE : ∀ W, Calls Tryz.prog 10 #[.agg (itA raw)] W fun e w' => e = .returned (.tuple #[.agg #[.int .i64 p.1, .int .i64 p.2.1, .int .i64 p.2.2], .agg #[.int .i64 q.1, .int .i64 q.2.1, .int .i64 q.2.2]]) ∧ Below W.heap.size W w' := ke
      have KR : ∀ W, Calls Tryz.prog 11 #[.agg (itA raw)] W fun e w' => e = .returned (.tuple #[.agg #[.int .i64 p.1, .int .i64 p.2.1, .int .i64 p.2.2], .agg #[.int .i64 q.1, .int .i64 q.2.1, .int .i64 q.2.2]]) ∧ Below W.heap.size W w' := kr
      have KE := Lib.hid KE
      have KR := Lib.hid KR
      clear hpq ke kr
      go_wp2_with ((with_reducible refine go_loadI (.tmp 5) w.heap.size raw (by with_unfolding_all rfl) (HR2.out.below BEL.out) ?_))
      refine (KE.out _).mono ?_
      rintro e w3 ⟨rfl, b3⟩
      have BEL3 := Lib.hid (BEL.out.trans (b3.mono BEL.out.size))
      have sz3 := BEL3.out.size
      clear b3 BEL e1 e1'
      go_upto_region 12 with fail
      refine wp_told (fun W => ZT w2 [(w3.heap.size, p), (w3.heap.size + 1, q)] W) (ZT.cons (ZT.cons ⟨(BEL3.out.alloc sz3 _).alloc (by simp; omega) _, fun p hp => by simp at hp⟩ (by omega) (blk_new1 w3 _ _ _)) sz3 ((Blk.new w3 _ _).alloc _)) ?_
      rintro W4 hz4
      obtain ⟨E, hE⟩ : ∃ E, w3.heap.size = E := ⟨_, rfl⟩
      rw [hE] at hz4 ⊢
      have HZ4 := Lib.hid hz4
      clear hE hz4 BEL3 sz3
      go_wp2_with ((with_reducible refine go_loadI (.tmp 5) w.heap.size raw (by with_unfolding_all rfl) (HR2.out.below HZ4.out.b2) ?_))
      refine (KR.out _).mono ?_
      rintro e w5 ⟨rfl, b5⟩
      have HZ5 := Lib.hid (HZ4.out.below b5)
      have sz5 := HZ5.out.b2.size
      clear b5 HZ4
      go_upto_region 13 with fail
      refine wp_told (fun W => ZT w2 [(w5.heap.size, p), (w5.heap.size + 1, q), (E, p), (E + 1, q)] W) (ZT.cons (ZT.cons ((HZ5.out.alloc _).alloc _) (by omega) (blk_new1 w5 _ _ _)) sz5 ((Blk.new w5 _ _).alloc _)) ?_
      rintro W6 hz6
      obtain ⟨F, hF⟩ : ∃ F, w5.heap.size = F := ⟨_, rfl⟩
      rw [hF] at hz6 ⊢
      have HZ6 := Lib.hid hz6
      clear hF hz6 HZ5 sz5
      refine wp_region_tabS 11 [(0, 71), (1, 72), (2, 73), (3, 74), (4, 75), (5, 76), (6, 77), (7, 78), (8, 79), (9, 80), (10, 21)]
        [[], [(0, 71)], [(1, 72)], [], [(3, 74)], [(4, 75)], [], [(6, 77)], [(7, 78)], [(2, 73), (5, 76), (8, 79)], [], []]
        [(7, .pointer (some ⟨w.heap.size + 1, 0, none⟩))]
        (fun W => ZT w2 [(F, p), (F + 1, q), (E, p), (E + 1, q)] W ∧ W6.heap.size ≤ W.heap.size) (zR W6.heap.size) (zG W6.heap.size (w.heap.size + 1) lw.1 lw.2.1 lw.2.2 (-3000) (0))
        (by kernel_rfl) (by kernel_rfl) (by kernel_rfl) (by kernel_rfl) ?_ ?_ ?_ ?_ ?_
      · intro p hp
        simp only [List.mem_singleton] at hp
        subst hp
        rfl
      · intro i v w1 w2 hg hv
        unfold zG at hv ⊢
        split at hv
        all_goals first
          | exact hv
          | (obtain ⟨b, h1, h2, h3⟩ := hv; exact ⟨b, h1, h2, hg.2 b h2 h3⟩)
      · exact ⟨HZ6.out.drew, Nat.le_refl _⟩
      · simp only [EachOp]
        refine ⟨fun _ => ?_, fun _ => ?_, fun _ => ?_, fun _ => ?_, fun _ => ?_, fun _ => ?_, fun _ => ?_, fun _ => ?_, fun _ => ?_, fun _ => ?_, fun _ => ?_, fun h => absurd rfl h, trivial⟩
        all_goals intro a1 w1 hJ hA hd; have HJ := Lib.hid hJ; clear hJ; have hA0 := hA _ (List.mem_singleton.2 rfl); clear hA; (try simp only [List.getD_cons_zero, List.getD_cons_succ, List.mem_cons, List.not_mem_nil, or_false, forall_eq_or_imp, forall_eq] at hd); simp only at hA0
        · clear hd
          have h1 : a1.tmps[7]?.getD undef = .pointer (some ⟨w.heap.size + 1, 0, none⟩) := hA0
          clear hA0
          go_simp
          exact ⟨_, rfl, zR_refl _ _, HJ.out, rfl⟩
        · clear hA0
          have h1 : a1.tmps[71]?.getD undef = .pointer (some ⟨w.heap.size + 1, 0, none⟩) := hd
          have q : w1.cell? ⟨w.heap.size + 1, 0, none⟩ = some (.int .i64 lw.1) := Blk.cell' (Blk.below HL2.out HJ.out.1.b2 (Blk.lt HL2.out)) 0 rfl
          clear hd
          go_simp
          exact ⟨_, rfl, zR_refl _ _, HJ.out, rfl⟩
        · clear hA0
          have h1 : a1.tmps[72]?.getD undef = .int .i64 lw.1 := hd
          clear hd
          go_simp
          refine (between_any lw.1 (-3000) (0) w1 (by decide) (by decide) (by decide)).mono ?_
          rintro e w2 ⟨rfl, rfl⟩
          exact ⟨_, rfl, zR_refl _ _, HJ.out, rfl⟩
        · clear hd
          have h1 : a1.tmps[7]?.getD undef = .pointer (some ⟨w.heap.size + 1, 0, none⟩) := hA0
          clear hA0
          go_simp
          exact ⟨_, rfl, zR_refl _ _, HJ.out, rfl⟩
        · clear hA0
          have h1 : a1.tmps[74]?.getD undef = .pointer (some ⟨w.heap.size + 1, 1, none⟩) := hd
          have q : w1.cell? ⟨w.heap.size + 1, 1, none⟩ = some (.int .i64 lw.2.1) := Blk.cell' (Blk.below HL2.out HJ.out.1.b2 (Blk.lt HL2.out)) 1 rfl
          clear hd
          go_simp
          exact ⟨_, rfl, zR_refl _ _, HJ.out, rfl⟩
        · clear hA0
          have h1 : a1.tmps[75]?.getD undef = .int .i64 lw.2.1 := hd
          clear hd
          go_simp
          refine (between_any lw.2.1 (-3000) (0) w1 (by decide) (by decide) (by decide)).mono ?_
          rintro e w2 ⟨rfl, rfl⟩
          exact ⟨_, rfl, zR_refl _ _, HJ.out, rfl⟩
        · clear hd
          have h1 : a1.tmps[7]?.getD undef = .pointer (some ⟨w.heap.size + 1, 0, none⟩) := hA0
          clear hA0
          go_simp
          exact ⟨_, rfl, zR_refl _ _, HJ.out, rfl⟩
        · clear hA0
          have h1 : a1.tmps[77]?.getD undef = .pointer (some ⟨w.heap.size + 1, 2, none⟩) := hd
          have q : w1.cell? ⟨w.heap.size + 1, 2, none⟩ = some (.int .i64 lw.2.2) := Blk.cell' (Blk.below HL2.out HJ.out.1.b2 (Blk.lt HL2.out)) 2 rfl
          clear hd
          go_simp
          exact ⟨_, rfl, zR_refl _ _, HJ.out, rfl⟩
        · clear hA0
          have h1 : a1.tmps[78]?.getD undef = .int .i64 lw.2.2 := hd
          clear hd
          go_simp
          refine (between_any lw.2.2 (-3000) (0) w1 (by decide) (by decide) (by decide)).mono ?_
          rintro e w2 ⟨rfl, rfl⟩
          exact ⟨_, rfl, zR_refl _ _, HJ.out, rfl⟩
        · clear hA0
          obtain ⟨g1, g2, g3⟩ := hd
          have g1 : a1.tmps[73]?.getD undef = .int .i64 (btw (-3000) (0) lw.1) := g1
          have g2 : a1.tmps[76]?.getD undef = .int .i64 (btw (-3000) (0) lw.2.1) := g2
          have g3 : a1.tmps[79]?.getD undef = .int .i64 (btw (-3000) (0) lw.2.2) := g3
          go_simp
          exact ⟨_, rfl, zR_refl _ _, HJ.out, rfl⟩
        · clear hA0 hd
          go_simp
          exact ⟨_, rfl, ⟨(Below.refl _ _).alloc HJ.out.2 _, fun b _ h => h.alloc _⟩, ⟨HJ.out.1.alloc _, Nat.le_succ_of_le HJ.out.2⟩, w1.heap.size, rfl, HJ.out.2, Blk.new _ _ _⟩
      intro vs w1 hJ hG
      have e1 := hG (9, 80) (by simp)
      obtain ⟨P, f1, f2, f3⟩ := hG (10, 21) (by simp)
      clear hG
      simp only [zG] at e1
      simp only at f1
      refine ⟨?_⟩
      simp only [AtOp, List.foldl_cons, List.foldl_nil]
      rw [e1, f1]
      simp only [Act.put, List.setIfInBounds_toArray, List.set_cons_zero, List.set_cons_succ]
      have y0 : w1.cell? ⟨P, 0, none⟩ = some (.int .i64 0) := f3.cell' 0 rfl
      have y1 : w1.cell? ⟨P, 1, none⟩ = some (.int .i64 0) := f3.cell' 1 rfl
      have y2 : w1.cell? ⟨P, 2, none⟩ = some (.int .i64 0) := f3.cell' 2 rfl
      have z0 := f3.frozen 0
      have z1 := f3.frozen 1
      have z2 := f3.frozen 2
      have hP2 : w2.heap.size ≤ P := Nat.le_trans HZ6.out.b2.size f2
      have hPn : ∀ x : Nat × V3, x ∈ ([(F, p), (F + 1, q), (E, p), (E + 1, q)] : List (Nat × V3)) → x.1 ≠ P := fun x hx e => by have := Blk.lt (HZ6.out.bl x hx).2; rw [e] at this; exact Nat.lt_irrefl _ (Nat.lt_of_le_of_lt f2 this)
      have HF3 := Lib.hid f3
      have HJ1 := Lib.hid hJ.1
      clear e1 f1 f3 hJ
      go_simp
      refine on_told (fun W => ∃ qq : V3, ZT w2 ((P, qq) :: [(F, p), (F + 1, q), (E, p), (E + 1, q)]) W) ⟨(btw (-3000) (0) lw.1, btw (-3000) (0) lw.2.1, btw (-3000) (0) lw.2.2), ZT.cons (q := (btw (-3000) (0) lw.1, btw (-3000) (0) lw.2.1, btw (-3000) (0) lw.2.2)) (((HJ1.out.far hP2 hPn 0 _).far hP2 hPn 1 _).far hP2 hPn 2 _) hP2 (((HF3.out.put 0 _).put 1 _).put 2 _)⟩ ?_
      clear y0 y1 y2 z0 z1 z2 HF3 HJ1 hP2 hPn f2 HZ6
      rintro W7 ⟨lq, hzz⟩
      have HZ7 := Lib.hid hzz
      clear hzz
      go_upto_region 14 with fail
      refine wp_region_tabS 11 [(0, 81), (1, 82), (2, 83), (3, 84), (4, 85), (5, 86), (6, 87), (7, 88), (8, 89), (9, 90), (10, 22)]
        [[], [(0, 81)], [(1, 82)], [], [(3, 84)], [(4, 85)], [], [(6, 87)], [(7, 88)], [(2, 83), (5, 86), (8, 89)], [], []]
        [(8, .pointer (some ⟨w.heap.size + 1 + 1, 0, none⟩))]
        (fun W => ZT w2 ((P, lq) :: [(F, p), (F + 1, q), (E, p), (E + 1, q)]) W ∧ W7.heap.size ≤ W.heap.size) (zR W7.heap.size) (zG W7.heap.size (w.heap.size + 1 + 1) hg.1 hg.2.1 hg.2.2 (0) (3000))
        (by kernel_rfl) (by kernel_rfl) (by kernel_rfl) (by kernel_rfl) ?_ ?_ ?_ ?_ ?_
      · intro p hp
        simp only [List.mem_singleton] at hp
        subst hp
        rfl
      · intro i v w1 w2 hg hv
        unfold zG at hv ⊢
        split at hv
        all_goals first
          | exact hv
          | (obtain ⟨b, h1, h2, h3⟩ := hv; exact ⟨b, h1, h2, hg.2 b h2 h3⟩)
      · exact ⟨HZ7.out.drew, Nat.le_refl _⟩
      · simp only [EachOp]
        refine ⟨fun _ => ?_, fun _ => ?_, fun _ => ?_, fun _ => ?_, fun _ => ?_, fun _ => ?_, fun _ => ?_, fun _ => ?_, fun _ => ?_, fun _ => ?_, fun _ => ?_, fun h => absurd rfl h, trivial⟩
        all_goals intro a1 w1 hJ hA hd; have HJ := Lib.hid hJ; clear hJ; have hA0 := hA _ (List.mem_singleton.2 rfl); clear hA; (try simp only [List.getD_cons_zero, List.getD_cons_succ, List.mem_cons, List.not_mem_nil, or_false, forall_eq_or_imp, forall_eq] at hd); simp only at hA0
        · clear hd
          have h1 : a1.tmps[8]?.getD undef = .pointer (some ⟨w.heap.size + 1 + 1, 0, none⟩) := hA0
          clear hA0
          go_simp
          exact ⟨_, rfl, zR_refl _ _, HJ.out, rfl⟩
        · clear hA0
          have h1 : a1.tmps[81]?.getD undef = .pointer (some ⟨w.heap.size + 1 + 1, 0, none⟩) := hd
          have q : w1.cell? ⟨w.heap.size + 1 + 1, 0, none⟩ = some (.int .i64 hg.1) := Blk.cell' (Blk.below HH2.out HJ.out.1.b2 (Blk.lt HH2.out)) 0 rfl
          clear hd
          go_simp
          exact ⟨_, rfl, zR_refl _ _, HJ.out, rfl⟩
        · clear hA0
          have h1 : a1.tmps[82]?.getD undef = .int .i64 hg.1 := hd
          clear hd
          go_simp
          refine (between_any hg.1 (0) (3000) w1 (by decide) (by decide) (by decide)).mono ?_
          rintro e w2 ⟨rfl, rfl⟩
          exact ⟨_, rfl, zR_refl _ _, HJ.out, rfl⟩
        · clear hd
          have h1 : a1.tmps[8]?.getD undef = .pointer (some ⟨w.heap.size + 1 + 1, 0, none⟩) := hA0
          clear hA0
          go_simp
          exact ⟨_, rfl, zR_refl _ _, HJ.out, rfl⟩
        · clear hA0
          have h1 : a1.tmps[84]?.getD undef = .pointer (some ⟨w.heap.size + 1 + 1, 1, none⟩) := hd
          have q : w1.cell? ⟨w.heap.size + 1 + 1, 1, none⟩ = some (.int .i64 hg.2.1) := Blk.cell' (Blk.below HH2.out HJ.out.1.b2 (Blk.lt HH2.out)) 1 rfl
          clear hd
          go_simp
          exact ⟨_, rfl, zR_refl _ _, HJ.out, rfl⟩
        · clear hA0
          have h1 : a1.tmps[85]?.getD undef = .int .i64 hg.2.1 := hd
          clear hd
          go_simp
          refine (between_any hg.2.1 (0) (3000) w1 (by decide) (by decide) (by decide)).mono ?_
          rintro e w2 ⟨rfl, rfl⟩
          exact ⟨_, rfl, zR_refl _ _, HJ.out, rfl⟩
        · clear hd
          have h1 : a1.tmps[8]?.getD undef = .pointer (some ⟨w.heap.size + 1 + 1, 0, none⟩) := hA0
          clear hA0
          go_simp
          exact ⟨_, rfl, zR_refl _ _, HJ.out, rfl⟩
        · clear hA0
          have h1 : a1.tmps[87]?.getD undef = .pointer (some ⟨w.heap.size + 1 + 1, 2, none⟩) := hd
          have q : w1.cell? ⟨w.heap.size + 1 + 1, 2, none⟩ = some (.int .i64 hg.2.2) := Blk.cell' (Blk.below HH2.out HJ.out.1.b2 (Blk.lt HH2.out)) 2 rfl
          clear hd
          go_simp
          exact ⟨_, rfl, zR_refl _ _, HJ.out, rfl⟩
        · clear hA0
          have h1 : a1.tmps[88]?.getD undef = .int .i64 hg.2.2 := hd
          clear hd
          go_simp
          refine (between_any hg.2.2 (0) (3000) w1 (by decide) (by decide) (by decide)).mono ?_
          rintro e w2 ⟨rfl, rfl⟩
          exact ⟨_, rfl, zR_refl _ _, HJ.out, rfl⟩
        · clear hA0
          obtain ⟨g1, g2, g3⟩ := hd
          have g1 : a1.tmps[83]?.getD undef = .int .i64 (btw (0) (3000) hg.1) := g1
          have g2 : a1.tmps[86]?.getD undef = .int .i64 (btw (0) (3000) hg.2.1) := g2
          have g3 : a1.tmps[89]?.getD undef = .int .i64 (btw (0) (3000) hg.2.2) := g3
          go_simp
          exact ⟨_, rfl, zR_refl _ _, HJ.out, rfl⟩
        · clear hA0 hd
          go_simp
          exact ⟨_, rfl, ⟨(Below.refl _ _).alloc HJ.out.2 _, fun b _ h => h.alloc _⟩, ⟨HJ.out.1.alloc _, Nat.le_succ_of_le HJ.out.2⟩, w1.heap.size, rfl, HJ.out.2, Blk.new _ _ _⟩
      intro vs w1 hJ hG
      have e1 := hG (9, 90) (by simp)
      obtain ⟨Q, f1, f2, f3⟩ := hG (10, 22) (by simp)
      clear hG
      simp only [zG] at e1
      simp only at f1
      refine ⟨?_⟩
      simp only [AtOp, List.foldl_cons, List.foldl_nil]
      rw [e1, f1]
      simp only [Act.put, List.setIfInBounds_toArray, List.set_cons_zero, List.set_cons_succ]
      have y0 : w1.cell? ⟨Q, 0, none⟩ = some (.int .i64 0) := f3.cell' 0 rfl
      have y1 : w1.cell? ⟨Q, 1, none⟩ = some (.int .i64 0) := f3.cell' 1 rfl
      have y2 : w1.cell? ⟨Q, 2, none⟩ = some (.int .i64 0) := f3.cell' 2 rfl
      have z0 := f3.frozen 0
      have z1 := f3.frozen 1
      have z2 := f3.frozen 2
      have hP2 : w2.heap.size ≤ Q := Nat.le_trans HZ7.out.b2.size f2
      have hPn : ∀ x : Nat × V3, x ∈ (((P, lq) :: [(F, p), (F + 1, q), (E, p), (E + 1, q)]) : List (Nat × V3)) → x.1 ≠ Q := fun x hx e => by have := Blk.lt (HZ7.out.bl x hx).2; rw [e] at this; exact Nat.lt_irrefl _ (Nat.lt_of_le_of_lt f2 this)
      have HF3 := Lib.hid f3
      have HJ1 := Lib.hid hJ.1
      clear e1 f1 f3 hJ
      go_simp
      refine on_told (fun W => ∃ qq : V3, ZT w2 ((Q, qq) :: ((P, lq) :: [(F, p), (F + 1, q), (E, p), (E + 1, q)])) W) ⟨(btw (0) (3000) hg.1, btw (0) (3000) hg.2.1, btw (0) (3000) hg.2.2), ZT.cons (q := (btw (0) (3000) hg.1, btw (0) (3000) hg.2.1, btw (0) (3000) hg.2.2)) (((HJ1.out.far hP2 hPn 0 _).far hP2 hPn 1 _).far hP2 hPn 2 _) hP2 (((HF3.out.put 0 _).put 1 _).put 2 _)⟩ ?_
      clear y0 y1 y2 z0 z1 z2 HF3 HJ1 hP2 hPn f2 HZ7
      rintro W8 ⟨hq, hzz⟩
      have HZ8 := Lib.hid hzz
      clear hzz
      go_upto_region 15 with fail
      have HN2 := Lib.hid (HZ8.out.b2.size)
      have sz8 : w2.heap.size ≤ W8.heap.size := HZ8.out.b2.size
      refine wp_region_held_drew (S := fun W => Below W8.heap.size W8 W) (by kernel_rfl) (Below.refl _ _).drew fun hS0 => ?_
      refine take_first 1 (v := .slice a5 k c5) rfl (by kernel_rfl) (by kernel_rfl) (by kernel_rfl) (fun _ _ _ h => h) rfl (fun W' hW' => by go_simp) hS0 ?_
      refine take_first 3 (v := .agg (itA raw)) rfl (by kernel_rfl) (by kernel_rfl) (by kernel_rfl) (fun _ _ _ h => h) rfl (fun W' hW' => by exact exec_itemX (.tmp 5) w.heap.size raw rfl rfl (HR2.out.below (HZ8.out.b2.trans (hW'.mono HZ8.out.b2.size)))) hS0 ?_
      refine two_next 0 4 (by kernel_rfl) rfl rfl rfl rfl (fun K0 hK0 => ?_) (fun K4 hK4 => ?_)
      · have HK0 := Lib.hid hK0
        clear hK0
        go_simp
        refine HK0.out _ _ (by (repeat (first | exact Below.refl _ _ | refine Below.drew ?_ | refine Below.alloc ?_ (by first | exact Nat.le_refl _ | (simp; done) | (simp; omega)) _))) ?_
        refine on_told (K := fun a w => wpAnyH _ _ _ _ _ _ _ a w) (fun W => Below W8.heap.size W8 W ∧ Blk W W8.heap.size 25 #[]) ⟨(by (repeat (first | exact Below.refl _ _ | refine Below.drew ?_ | refine Below.alloc ?_ (by first | exact Nat.le_refl _ | (simp; done) | (simp; omega)) _))), by first | exact (Blk.new W8 _ _).drew | exact Blk.new W8.drew _ _⟩ ?_
        rintro U0 ⟨bu, gu⟩
        have BU := Lib.hid bu
        have GU := Lib.hid gu
        clear bu gu
        clear HK0
        refine two_next 2 4 (by kernel_rfl) rfl rfl rfl rfl (fun K2 hK2 => ?_) (fun K4 hK4 => ?_)
        · have HK2 := Lib.hid hK2
          clear hK2
          refine wo_itsapp (.tmp 91) (.tmp 92) (base := W8.heap.size) [] a5 c5 L rfl (own_empty GU.out (Nat.le_refl W8.heap.size)) (by rw [HLN.out]; rfl) HNO.out (HAT2.out.below (HZ8.out.b2.trans (BU.out.mono HZ8.out.b2.size))) (by have := HL8.out; simp; omega) (BU.out).size ?_
          intro v3 w3 hown3 hgr3
          rw [List.nil_append] at hown3
          have b3 : Below W8.heap.size W8 w3 := (BU.out).trans (below_of_grown hgr3 (BU.out).size (fun k e => by have e2 : W8.heap.size = k := (by injection e); have := (Nat.le_refl W8.heap.size); omega))
          refine HK2.out _ _ b3 ?_
          refine one_next 4 (by kernel_rfl) rfl rfl fun K4 hK4 => ?_
          have HK4 := Lib.hid hK4
          clear hK4
          refine wo_it1 (.tmp 94) raw rfl ?_
          refine HK4.out _ _ (b3.alloc b3.size _) ?_
          refine on_told (K := fun a w => wpAnyH _ _ _ _ _ _ _ a w) (fun W => Below W8.heap.size W8 W ∧ W.ownsRow W8.heap.size 25 22 v3 L.length (itsC L) ∧ ItAt W w3.heap.size raw) ⟨b3.alloc b3.size _, hown3.alloc _, ItAt.new _ _⟩ ?_
          rintro U2 ⟨bb, own, it4⟩
          have BB := Lib.hid bb
          have OWN := Lib.hid own
          have IT4 := Lib.hid it4
          clear bb own it4
          clear HK2 HK4 BU GU b3 hown3 hgr3
          refine one_next 5 (by kernel_rfl) rfl rfl fun K5 hK5 => ?_
          have HK5 := Lib.hid hK5
          clear hK5
          refine wo_itsapp (.tmp 93) (.tmp 95) (base := W8.heap.size) L (some ⟨w3.heap.size, 0, none⟩) 1 [raw] rfl OWN.out rfl (fun h => by cases h) (its_one IT4.out) (by have := HL8.out; simp; omega) BB.out.size ?_
          intro v5 w5 hown5 hgr5
          have B5 := Lib.hid (BB.out.trans (below_of_grown hgr5 BB.out.size (fun k e => (OWN.out.lt k e).1)))
          refine HK5.out _ _ B5.out ?_
          refine one_next 6 (by kernel_rfl) rfl rfl fun K6 hK6 => ?_
          have HK6 := Lib.hid hK6
          clear hK6
          go_simp
          refine HK6.out _ _ B5.out ?_
          refine wpAnyH_done (by kernel_rfl) ?_ _
          obtain ⟨a9, c9, rfl, hat9, _⟩ := its_own hown5
          clear HK5 HK6 OWN IT4 BB hown5 hgr5
          try go_simp
          go_upto_region 16 with fail
          let S : World → Prop := fun W => ZT w2 ((Q, hq) :: (P, lq) :: [(F, p), (F + 1, q), (E, p), (E + 1, q)]) W ∧ ItsAt W a9 (L ++ [raw])
          have hs : S w5.drew := ⟨(HZ8.out.below B5.out).drew, hat9.below (Below.refl _ _).drew⟩
          have inst : Nonempty (At S) := ⟨⟨_, hs⟩⟩
          have SB : ∀ W W', S W → Below W.heap.size W W' → S W' := fun W W' h b => ⟨h.1.below b, h.2.below b⟩
          have KA := Lib.hid (fun x : At S => (awake_true x.w (HE0.out.below (BX2.out.trans (x.ok.1.b2.mono BX2.out.size)) hlow)).mono (fun e w' h => (⟨h.1, SB _ _ x.ok h.2⟩ : e = .returned (.bool true) ∧ S w')))
          have L17 := Lib.hid (fun x : At S => VB.load ((x.ok.1.bl (E, p) (by simp)).2))
          have L18 := Lib.hid (fun x : At S => VB.load ((x.ok.1.bl (E + 1, q) (by simp)).2))
          have L19 := Lib.hid (fun x : At S => VB.load ((x.ok.1.bl (F, p) (by simp)).2))
          have L20 := Lib.hid (fun x : At S => VB.load ((x.ok.1.bl (F + 1, q) (by simp)).2))
          have L21 := Lib.hid (fun x : At S => VB.load ((x.ok.1.bl (P, lq) (by simp)).2))
          have L22 := Lib.hid (fun x : At S => VB.load ((x.ok.1.bl (Q, hq) (by simp)).2))
          have L7 := Lib.hid (fun x : At S => VB.load (Blk.below HL2.out x.ok.1.b2 (Blk.lt HL2.out)))
          have L8 := Lib.hid (fun x : At S => VB.load (Blk.below HH2.out x.ok.1.b2 (Blk.lt HH2.out)))
          have L9 := Lib.hid (fun x : At S => VB.load (Blk.below HST2.out x.ok.1.b2 (Blk.lt HST2.out)))
          have hml : (L ++ [raw]).length ≤ 9223372036854775807 := by rw [List.length_append]; have := HL8.out; simp; omega
          obtain ⟨o1, ho1⟩ : ∃ x, outL lw hg (L ++ [raw]) 0 = x := ⟨_, rfl⟩
          obtain ⟨o2, ho2⟩ : ∃ x, outL lq hq (L ++ [raw]) 0 = x := ⟨_, rfl⟩
          obtain ⟨ep, hep⟩ : ∃ x, walkAt st L = x := ⟨_, rfl⟩
          have c1 := fun x : At S => cout_any a9 c9 (L ++ [raw]) lw hg x.w x.ok.2 hml
          have c2 := fun x : At S => rout_any rext_ok a9 c9 (L ++ [raw]) lw hg x.w x.ok.2 hml
          have c3 := fun x : At S => cout_any a9 c9 (L ++ [raw]) lq hq x.w x.ok.2 hml
          have c4 := fun x : At S => rout_any rext_ok a9 c9 (L ++ [raw]) lq hq x.w x.ok.2 hml
          have c5' := fun x : At S => cend_any a5 c5 L st x.w (HAT2.out.below x.ok.1.b2) (by rw [HLN.out]; omega)
          have c6 := fun x : At S => rend_any a5 c5 L st x.w (HAT2.out.below x.ok.1.b2) (by rw [HLN.out]; omega)
          rw [ho1] at c1 c2
          rw [ho2] at c3 c4
          rw [hep, HLN.out] at c5' c6
          have hM : (L ++ [raw]).length = L.length + 1 := by simp
          rw [hM] at c1 c2 c3 c4
          have C1 := Lib.hid (fun x : At S => (show Calls Tryz.prog 13 #[.slice a9 (L.length + 1) c9, .agg #[.int .i64 lw.1, .int .i64 lw.2.1, .int .i64 lw.2.2], .agg #[.int .i64 hg.1, .int .i64 hg.2.1, .int .i64 hg.2.2]] x.w _ from c1 x).mono (fun e w' h => (⟨h.1, SB _ _ x.ok h.2⟩ : e = .returned (.int .i64 o1) ∧ S w')))
          have C2 := Lib.hid (fun x : At S => (show Calls Tryz.prog 14 #[.slice a9 (L.length + 1) c9, .agg #[.int .i64 lw.1, .int .i64 lw.2.1, .int .i64 lw.2.2], .agg #[.int .i64 hg.1, .int .i64 hg.2.1, .int .i64 hg.2.2]] x.w _ from c2 x).mono (fun e w' h => (⟨h.1, SB _ _ x.ok h.2⟩ : e = .returned (.int .i64 o1) ∧ S w')))
          have C3 := Lib.hid (fun x : At S => (show Calls Tryz.prog 13 #[.slice a9 (L.length + 1) c9, .agg #[.int .i64 lq.1, .int .i64 lq.2.1, .int .i64 lq.2.2], .agg #[.int .i64 hq.1, .int .i64 hq.2.1, .int .i64 hq.2.2]] x.w _ from c3 x).mono (fun e w' h => (⟨h.1, SB _ _ x.ok h.2⟩ : e = .returned (.int .i64 o2) ∧ S w')))
          have C4 := Lib.hid (fun x : At S => (show Calls Tryz.prog 14 #[.slice a9 (L.length + 1) c9, .agg #[.int .i64 lq.1, .int .i64 lq.2.1, .int .i64 lq.2.2], .agg #[.int .i64 hq.1, .int .i64 hq.2.1, .int .i64 hq.2.2]] x.w _ from c4 x).mono (fun e w' h => (⟨h.1, SB _ _ x.ok h.2⟩ : e = .returned (.int .i64 o2) ∧ S w')))
          have C5 := Lib.hid (fun x : At S => (show Calls Tryz.prog 15 #[.slice a5 k c5, .agg #[.int .i64 st.1, .int .i64 st.2.1, .int .i64 st.2.2]] x.w _ from c5' x).mono (fun e w' h => (⟨h.1, SB _ _ x.ok h.2⟩ : e = .returned (.agg #[.int .i64 ep.1, .int .i64 ep.2.1, .int .i64 ep.2.2]) ∧ S w')))
          have C6 := Lib.hid (fun x : At S => (show Calls Tryz.prog 16 #[.slice a5 k c5, .agg #[.int .i64 st.1, .int .i64 st.2.1, .int .i64 st.2.2]] x.w _ from c6 x).mono (fun e w' h => (⟨h.1, SB _ _ x.ok h.2⟩ : e = .returned (.agg #[.int .i64 ep.1, .int .i64 ep.2.1, .int .i64 ep.2.2]) ∧ S w')))
          have EP := Lib.hid (vec_self p)
          have EQ := Lib.hid (vec_self q)
          have EE := Lib.hid (vec_self ep)
          have HF : Hid (∀ x : At S, ZT w2 ((Q, hq) :: (P, lq) :: [(F, p), (F + 1, q), (E, p), (E + 1, q)]) x.w) := Lib.hid (fun x => x.ok.1)
          clear c1 c2 c3 c4 c5' c6 ho1 ho2 hep SB hat9
          clear_value S
          refine wp_region_at S (by kernel_rfl) (by kernel_rfl) hs ?_
          try simp only [List.append_eq, List.cons_append, List.nil_append]
          repeat (first
            | (go_big_quiet_want; (first
                | refine quiet_load 23 (.tmp 17) rfl _ _ rfl L17.out ?_
                | refine quiet_load 23 (.tmp 18) rfl _ _ rfl L18.out ?_
                | refine quiet_load 23 (.tmp 19) rfl _ _ rfl L19.out ?_
                | refine quiet_load 23 (.tmp 20) rfl _ _ rfl L20.out ?_
                | refine quiet_load 23 (.tmp 21) rfl _ _ rfl L21.out ?_
                | refine quiet_load 23 (.tmp 22) rfl _ _ rfl L22.out ?_
                | refine quiet_load 23 (.tmp 7) rfl _ _ rfl L7.out ?_
                | refine quiet_load 23 (.tmp 8) rfl _ _ rfl L8.out ?_
                | refine quiet_load 23 (.tmp 9) rfl _ _ rfl L9.out ?_
                | refine quiet_eql 23 _ (.tmp 99) (.tmp 100) rfl #[.int .i64 p.1, .int .i64 p.2.1, .int .i64 p.2.2] #[.int .i64 p.1, .int .i64 p.2.1, .int .i64 p.2.2] true rfl rfl (by kernel_rfl) EP.out ?_
                | refine quiet_eql 23 _ (.tmp 104) (.tmp 105) rfl #[.int .i64 q.1, .int .i64 q.2.1, .int .i64 q.2.2] #[.int .i64 q.1, .int .i64 q.2.1, .int .i64 q.2.2] true rfl rfl (by kernel_rfl) EQ.out ?_
                | refine quiet_eql 23 _ (.tmp 133) (.tmp 136) rfl #[.int .i64 ep.1, .int .i64 ep.2.1, .int .i64 ep.2.2] #[.int .i64 ep.1, .int .i64 ep.2.1, .int .i64 ep.2.2] true rfl rfl (by kernel_rfl) EE.out ?_); simp only [Act.put, List.setIfInBounds_toArray, List.set_cons_zero, List.set_cons_succ]; go_big_quiet_on)
            | go_big_quiet_step (first | with_reducible exact Calls.at_of (KA.out _) fun e w' h => ⟨h.1, h.2⟩ | with_reducible exact Calls.at_of (C1.out _) fun e w' h => ⟨h.1, h.2⟩ | with_reducible exact Calls.at_of (C2.out _) fun e w' h => ⟨h.1, h.2⟩ | with_reducible exact Calls.at_of (C3.out _) fun e w' h => ⟨h.1, h.2⟩ | with_reducible exact Calls.at_of (C4.out _) fun e w' h => ⟨h.1, h.2⟩ | with_reducible exact Calls.at_of (C5.out _) fun e w' h => ⟨h.1, h.2⟩ | with_reducible exact Calls.at_of (C6.out _) fun e w' h => ⟨h.1, h.2⟩))
          refine wpQuiet_nil ?_
          rintro _ ⟨x, rfl⟩
          have hzx := HF.out x
          generalize x.w = WX at hzx ⊢
          have BEL := Lib.hid (BX2.out.trans (hzx.b2.mono BX2.out.size))
          clear HF inst hs KA C1 C2 C3 C4 C5 C6 EP EQ EE hzx L17 L18 L19 L20 L21 L22 L7 L8 L9
          go_wp2_with fail
          go_ret
          exact ⟨rfl, BEL.out⟩
        · have HK4 := Lib.hid hK4
          clear hK4
          refine wo_it1 (.tmp 94) raw rfl ?_
          refine HK4.out _ _ (BU.out.alloc BU.out.size _) ?_
          have hlt0 := GU.out.lt
          refine on_told (K := fun a w => wpAnyH _ _ _ _ _ _ _ a w) (fun W => Below W8.heap.size W8 W ∧ Blk W W8.heap.size 25 #[] ∧ ItAt W U0.heap.size raw) ⟨BU.out.alloc BU.out.size _, GU.out.alloc _, ItAt.new _ _⟩ ?_
          rintro U1 ⟨bv, gv, iv⟩
          have BV := Lib.hid bv
          have GV := Lib.hid gv
          have IV := Lib.hid iv
          clear bv gv iv
          clear HK4 BU GU
          refine one_next 2 (by kernel_rfl) rfl rfl fun K2 hK2 => ?_
          have HK2 := Lib.hid hK2
          clear hK2
          refine wo_itsapp (.tmp 91) (.tmp 92) (base := W8.heap.size) [] a5 c5 L rfl (own_empty GV.out (Nat.le_refl W8.heap.size)) (by rw [HLN.out]; rfl) HNO.out (HAT2.out.below (HZ8.out.b2.trans (BV.out.mono HZ8.out.b2.size))) (by have := HL8.out; simp; omega) (BV.out).size ?_
          intro v3 w3 hown3 hgr3
          rw [List.nil_append] at hown3
          have b3 : Below W8.heap.size W8 w3 := (BV.out).trans (below_of_grown hgr3 (BV.out).size (fun k e => by have e2 : W8.heap.size = k := (by injection e); have := (Nat.le_refl W8.heap.size); omega))
          refine HK2.out _ _ b3 ?_
          refine on_told (K := fun a w => wpAnyH _ _ _ _ _ _ _ a w) (fun W => Below W8.heap.size W8 W ∧ W.ownsRow W8.heap.size 25 22 v3 L.length (itsC L) ∧ ItAt W U0.heap.size raw) ⟨b3, hown3, IV.out.grown hgr3 (fun e => by have e2 : U0.heap.size = W8.heap.size := (by injection e); omega)⟩ ?_
          rintro U2 ⟨bb, own, it4⟩
          have BB := Lib.hid bb
          have OWN := Lib.hid own
          have IT4 := Lib.hid it4
          clear bb own it4
          clear HK2 BV GV IV b3 hown3 hgr3
          refine one_next 5 (by kernel_rfl) rfl rfl fun K5 hK5 => ?_
          have HK5 := Lib.hid hK5
          clear hK5
          refine wo_itsapp (.tmp 93) (.tmp 95) (base := W8.heap.size) L (some ⟨U0.heap.size, 0, none⟩) 1 [raw] rfl OWN.out rfl (fun h => by cases h) (its_one IT4.out) (by have := HL8.out; simp; omega) BB.out.size ?_
          intro v5 w5 hown5 hgr5
          have B5 := Lib.hid (BB.out.trans (below_of_grown hgr5 BB.out.size (fun k e => (OWN.out.lt k e).1)))
          refine HK5.out _ _ B5.out ?_
          refine one_next 6 (by kernel_rfl) rfl rfl fun K6 hK6 => ?_
          have HK6 := Lib.hid hK6
          clear hK6
          go_simp
          refine HK6.out _ _ B5.out ?_
          refine wpAnyH_done (by kernel_rfl) ?_ _
          obtain ⟨a9, c9, rfl, hat9, _⟩ := its_own hown5
          clear HK5 HK6 OWN IT4 BB hown5 hgr5
          try go_simp
          go_upto_region 16 with fail
          let S : World → Prop := fun W => ZT w2 ((Q, hq) :: (P, lq) :: [(F, p), (F + 1, q), (E, p), (E + 1, q)]) W ∧ ItsAt W a9 (L ++ [raw])
          have hs : S w5.drew := ⟨(HZ8.out.below B5.out).drew, hat9.below (Below.refl _ _).drew⟩
          have inst : Nonempty (At S) := ⟨⟨_, hs⟩⟩
          have SB : ∀ W W', S W → Below W.heap.size W W' → S W' := fun W W' h b => ⟨h.1.below b, h.2.below b⟩
          have KA := Lib.hid (fun x : At S => (awake_true x.w (HE0.out.below (BX2.out.trans (x.ok.1.b2.mono BX2.out.size)) hlow)).mono (fun e w' h => (⟨h.1, SB _ _ x.ok h.2⟩ : e = .returned (.bool true) ∧ S w')))
          have L17 := Lib.hid (fun x : At S => VB.load ((x.ok.1.bl (E, p) (by simp)).2))
          have L18 := Lib.hid (fun x : At S => VB.load ((x.ok.1.bl (E + 1, q) (by simp)).2))
          have L19 := Lib.hid (fun x : At S => VB.load ((x.ok.1.bl (F, p) (by simp)).2))
          have L20 := Lib.hid (fun x : At S => VB.load ((x.ok.1.bl (F + 1, q) (by simp)).2))
          have L21 := Lib.hid (fun x : At S => VB.load ((x.ok.1.bl (P, lq) (by simp)).2))
          have L22 := Lib.hid (fun x : At S => VB.load ((x.ok.1.bl (Q, hq) (by simp)).2))
          have L7 := Lib.hid (fun x : At S => VB.load (Blk.below HL2.out x.ok.1.b2 (Blk.lt HL2.out)))
          have L8 := Lib.hid (fun x : At S => VB.load (Blk.below HH2.out x.ok.1.b2 (Blk.lt HH2.out)))
          have L9 := Lib.hid (fun x : At S => VB.load (Blk.below HST2.out x.ok.1.b2 (Blk.lt HST2.out)))
          have hml : (L ++ [raw]).length ≤ 9223372036854775807 := by rw [List.length_append]; have := HL8.out; simp; omega
          obtain ⟨o1, ho1⟩ : ∃ x, outL lw hg (L ++ [raw]) 0 = x := ⟨_, rfl⟩
          obtain ⟨o2, ho2⟩ : ∃ x, outL lq hq (L ++ [raw]) 0 = x := ⟨_, rfl⟩
          obtain ⟨ep, hep⟩ : ∃ x, walkAt st L = x := ⟨_, rfl⟩
          have c1 := fun x : At S => cout_any a9 c9 (L ++ [raw]) lw hg x.w x.ok.2 hml
          have c2 := fun x : At S => rout_any rext_ok a9 c9 (L ++ [raw]) lw hg x.w x.ok.2 hml
          have c3 := fun x : At S => cout_any a9 c9 (L ++ [raw]) lq hq x.w x.ok.2 hml
          have c4 := fun x : At S => rout_any rext_ok a9 c9 (L ++ [raw]) lq hq x.w x.ok.2 hml
          have c5' := fun x : At S => cend_any a5 c5 L st x.w (HAT2.out.below x.ok.1.b2) (by rw [HLN.out]; omega)
          have c6 := fun x : At S => rend_any a5 c5 L st x.w (HAT2.out.below x.ok.1.b2) (by rw [HLN.out]; omega)
          rw [ho1] at c1 c2
          rw [ho2] at c3 c4
          rw [hep, HLN.out] at c5' c6
          have hM : (L ++ [raw]).length = L.length + 1 := by simp
          rw [hM] at c1 c2 c3 c4
          have C1 := Lib.hid (fun x : At S => (show Calls Tryz.prog 13 #[.slice a9 (L.length + 1) c9, .agg #[.int .i64 lw.1, .int .i64 lw.2.1, .int .i64 lw.2.2], .agg #[.int .i64 hg.1, .int .i64 hg.2.1, .int .i64 hg.2.2]] x.w _ from c1 x).mono (fun e w' h => (⟨h.1, SB _ _ x.ok h.2⟩ : e = .returned (.int .i64 o1) ∧ S w')))
          have C2 := Lib.hid (fun x : At S => (show Calls Tryz.prog 14 #[.slice a9 (L.length + 1) c9, .agg #[.int .i64 lw.1, .int .i64 lw.2.1, .int .i64 lw.2.2], .agg #[.int .i64 hg.1, .int .i64 hg.2.1, .int .i64 hg.2.2]] x.w _ from c2 x).mono (fun e w' h => (⟨h.1, SB _ _ x.ok h.2⟩ : e = .returned (.int .i64 o1) ∧ S w')))
          have C3 := Lib.hid (fun x : At S => (show Calls Tryz.prog 13 #[.slice a9 (L.length + 1) c9, .agg #[.int .i64 lq.1, .int .i64 lq.2.1, .int .i64 lq.2.2], .agg #[.int .i64 hq.1, .int .i64 hq.2.1, .int .i64 hq.2.2]] x.w _ from c3 x).mono (fun e w' h => (⟨h.1, SB _ _ x.ok h.2⟩ : e = .returned (.int .i64 o2) ∧ S w')))
          have C4 := Lib.hid (fun x : At S => (show Calls Tryz.prog 14 #[.slice a9 (L.length + 1) c9, .agg #[.int .i64 lq.1, .int .i64 lq.2.1, .int .i64 lq.2.2], .agg #[.int .i64 hq.1, .int .i64 hq.2.1, .int .i64 hq.2.2]] x.w _ from c4 x).mono (fun e w' h => (⟨h.1, SB _ _ x.ok h.2⟩ : e = .returned (.int .i64 o2) ∧ S w')))
          have C5 := Lib.hid (fun x : At S => (show Calls Tryz.prog 15 #[.slice a5 k c5, .agg #[.int .i64 st.1, .int .i64 st.2.1, .int .i64 st.2.2]] x.w _ from c5' x).mono (fun e w' h => (⟨h.1, SB _ _ x.ok h.2⟩ : e = .returned (.agg #[.int .i64 ep.1, .int .i64 ep.2.1, .int .i64 ep.2.2]) ∧ S w')))
          have C6 := Lib.hid (fun x : At S => (show Calls Tryz.prog 16 #[.slice a5 k c5, .agg #[.int .i64 st.1, .int .i64 st.2.1, .int .i64 st.2.2]] x.w _ from c6 x).mono (fun e w' h => (⟨h.1, SB _ _ x.ok h.2⟩ : e = .returned (.agg #[.int .i64 ep.1, .int .i64 ep.2.1, .int .i64 ep.2.2]) ∧ S w')))
          have EP := Lib.hid (vec_self p)
          have EQ := Lib.hid (vec_self q)
          have EE := Lib.hid (vec_self ep)
          have HF : Hid (∀ x : At S, ZT w2 ((Q, hq) :: (P, lq) :: [(F, p), (F + 1, q), (E, p), (E + 1, q)]) x.w) := Lib.hid (fun x => x.ok.1)
          clear c1 c2 c3 c4 c5' c6 ho1 ho2 hep SB hat9
          clear_value S
          refine wp_region_at S (by kernel_rfl) (by kernel_rfl) hs ?_
          try simp only [List.append_eq, List.cons_append, List.nil_append]
          repeat (first
            | (go_big_quiet_want; (first
                | refine quiet_load 23 (.tmp 17) rfl _ _ rfl L17.out ?_
                | refine quiet_load 23 (.tmp 18) rfl _ _ rfl L18.out ?_
                | refine quiet_load 23 (.tmp 19) rfl _ _ rfl L19.out ?_
                | refine quiet_load 23 (.tmp 20) rfl _ _ rfl L20.out ?_
                | refine quiet_load 23 (.tmp 21) rfl _ _ rfl L21.out ?_
                | refine quiet_load 23 (.tmp 22) rfl _ _ rfl L22.out ?_
                | refine quiet_load 23 (.tmp 7) rfl _ _ rfl L7.out ?_
                | refine quiet_load 23 (.tmp 8) rfl _ _ rfl L8.out ?_
                | refine quiet_load 23 (.tmp 9) rfl _ _ rfl L9.out ?_
                | refine quiet_eql 23 _ (.tmp 99) (.tmp 100) rfl #[.int .i64 p.1, .int .i64 p.2.1, .int .i64 p.2.2] #[.int .i64 p.1, .int .i64 p.2.1, .int .i64 p.2.2] true rfl rfl (by kernel_rfl) EP.out ?_
                | refine quiet_eql 23 _ (.tmp 104) (.tmp 105) rfl #[.int .i64 q.1, .int .i64 q.2.1, .int .i64 q.2.2] #[.int .i64 q.1, .int .i64 q.2.1, .int .i64 q.2.2] true rfl rfl (by kernel_rfl) EQ.out ?_
                | refine quiet_eql 23 _ (.tmp 133) (.tmp 136) rfl #[.int .i64 ep.1, .int .i64 ep.2.1, .int .i64 ep.2.2] #[.int .i64 ep.1, .int .i64 ep.2.1, .int .i64 ep.2.2] true rfl rfl (by kernel_rfl) EE.out ?_); simp only [Act.put, List.setIfInBounds_toArray, List.set_cons_zero, List.set_cons_succ]; go_big_quiet_on)
            | go_big_quiet_step (first | with_reducible exact Calls.at_of (KA.out _) fun e w' h => ⟨h.1, h.2⟩ | with_reducible exact Calls.at_of (C1.out _) fun e w' h => ⟨h.1, h.2⟩ | with_reducible exact Calls.at_of (C2.out _) fun e w' h => ⟨h.1, h.2⟩ | with_reducible exact Calls.at_of (C3.out _) fun e w' h => ⟨h.1, h.2⟩ | with_reducible exact Calls.at_of (C4.out _) fun e w' h => ⟨h.1, h.2⟩ | with_reducible exact Calls.at_of (C5.out _) fun e w' h => ⟨h.1, h.2⟩ | with_reducible exact Calls.at_of (C6.out _) fun e w' h => ⟨h.1, h.2⟩))
          refine wpQuiet_nil ?_
          rintro _ ⟨x, rfl⟩
          have hzx := HF.out x
          generalize x.w = WX at hzx ⊢
          have BEL := Lib.hid (BX2.out.trans (hzx.b2.mono BX2.out.size))
          clear HF inst hs KA C1 C2 C3 C4 C5 C6 EP EQ EE hzx L17 L18 L19 L20 L21 L22 L7 L8 L9
          go_wp2_with fail
          go_ret
          exact ⟨rfl, BEL.out⟩
      · have HK4 := Lib.hid hK4
        clear hK4
        refine wo_it1 (.tmp 94) raw rfl ?_
        refine HK4.out _ _ (by (repeat (first | exact Below.refl _ _ | refine Below.drew ?_ | refine Below.alloc ?_ (by first | exact Nat.le_refl _ | (simp; done) | (simp; omega)) _))) ?_
        refine on_told (K := fun a w => wpAnyH _ _ _ _ _ _ _ a w) (fun W => Below W8.heap.size W8 W ∧ ItAt W W8.heap.size raw) ⟨(by (repeat (first | exact Below.refl _ _ | refine Below.drew ?_ | refine Below.alloc ?_ (by first | exact Nat.le_refl _ | (simp; done) | (simp; omega)) _))), ItAt.new W8.drew raw⟩ ?_
        rintro U1 ⟨bv, iv⟩
        have BV := Lib.hid bv
        have IV := Lib.hid iv
        clear bv iv
        clear HK4
        have hlt0 := IV.out.lt
        refine one_next 0 (by kernel_rfl) rfl rfl fun K0 hK0 => ?_
        have HK0 := Lib.hid hK0
        clear hK0
        go_simp
        refine HK0.out _ _ (BV.out.alloc BV.out.size _) ?_
        refine on_told (K := fun a w => wpAnyH _ _ _ _ _ _ _ a w) (fun W => Below W8.heap.size W8 W ∧ Blk W U1.heap.size 25 #[] ∧ ItAt W W8.heap.size raw) ⟨BV.out.alloc BV.out.size _, Blk.new _ _ _, IV.out.alloc _⟩ ?_
        rintro U0 ⟨bu, gu, iu⟩
        have BU := Lib.hid bu
        have GU := Lib.hid gu
        have IU := Lib.hid iu
        clear bu gu iu
        have sz1 := BV.out.size
        clear HK0 BV IV
        refine one_next 2 (by kernel_rfl) rfl rfl fun K2 hK2 => ?_
        have HK2 := Lib.hid hK2
        clear hK2
        refine wo_itsapp (.tmp 91) (.tmp 92) (base := W8.heap.size) [] a5 c5 L rfl (own_empty GU.out (sz1)) (by rw [HLN.out]; rfl) HNO.out (HAT2.out.below (HZ8.out.b2.trans (BU.out.mono HZ8.out.b2.size))) (by have := HL8.out; simp; omega) (BU.out).size ?_
        intro v3 w3 hown3 hgr3
        rw [List.nil_append] at hown3
        have b3 : Below W8.heap.size W8 w3 := (BU.out).trans (below_of_grown hgr3 (BU.out).size (fun k e => by have e2 : U1.heap.size = k := (by injection e); have := (sz1); omega))
        refine HK2.out _ _ b3 ?_
        refine on_told (K := fun a w => wpAnyH _ _ _ _ _ _ _ a w) (fun W => Below W8.heap.size W8 W ∧ W.ownsRow W8.heap.size 25 22 v3 L.length (itsC L) ∧ ItAt W W8.heap.size raw) ⟨b3, hown3, IU.out.grown hgr3 (fun e => by have e2 : W8.heap.size = U1.heap.size := (by injection e); omega)⟩ ?_
        rintro U2 ⟨bb, own, it4⟩
        have BB := Lib.hid bb
        have OWN := Lib.hid own
        have IT4 := Lib.hid it4
        clear bb own it4
        clear HK2 BU GU IU b3 hown3 hgr3
        refine one_next 5 (by kernel_rfl) rfl rfl fun K5 hK5 => ?_
        have HK5 := Lib.hid hK5
        clear hK5
        refine wo_itsapp (.tmp 93) (.tmp 95) (base := W8.heap.size) L (some ⟨W8.heap.size, 0, none⟩) 1 [raw] rfl OWN.out rfl (fun h => by cases h) (its_one IT4.out) (by have := HL8.out; simp; omega) BB.out.size ?_
        intro v5 w5 hown5 hgr5
        have B5 := Lib.hid (BB.out.trans (below_of_grown hgr5 BB.out.size (fun k e => (OWN.out.lt k e).1)))
        refine HK5.out _ _ B5.out ?_
        refine one_next 6 (by kernel_rfl) rfl rfl fun K6 hK6 => ?_
        have HK6 := Lib.hid hK6
        clear hK6
        go_simp
        refine HK6.out _ _ B5.out ?_
        refine wpAnyH_done (by kernel_rfl) ?_ _
        obtain ⟨a9, c9, rfl, hat9, _⟩ := its_own hown5
        clear HK5 HK6 OWN IT4 BB hown5 hgr5
        try go_simp
        go_upto_region 16 with fail
        let S : World → Prop := fun W => ZT w2 ((Q, hq) :: (P, lq) :: [(F, p), (F + 1, q), (E, p), (E + 1, q)]) W ∧ ItsAt W a9 (L ++ [raw])
        have hs : S w5.drew := ⟨(HZ8.out.below B5.out).drew, hat9.below (Below.refl _ _).drew⟩
        have inst : Nonempty (At S) := ⟨⟨_, hs⟩⟩
        have SB : ∀ W W', S W → Below W.heap.size W W' → S W' := fun W W' h b => ⟨h.1.below b, h.2.below b⟩
        have KA := Lib.hid (fun x : At S => (awake_true x.w (HE0.out.below (BX2.out.trans (x.ok.1.b2.mono BX2.out.size)) hlow)).mono (fun e w' h => (⟨h.1, SB _ _ x.ok h.2⟩ : e = .returned (.bool true) ∧ S w')))
        have L17 := Lib.hid (fun x : At S => VB.load ((x.ok.1.bl (E, p) (by simp)).2))
        have L18 := Lib.hid (fun x : At S => VB.load ((x.ok.1.bl (E + 1, q) (by simp)).2))
        have L19 := Lib.hid (fun x : At S => VB.load ((x.ok.1.bl (F, p) (by simp)).2))
        have L20 := Lib.hid (fun x : At S => VB.load ((x.ok.1.bl (F + 1, q) (by simp)).2))
        have L21 := Lib.hid (fun x : At S => VB.load ((x.ok.1.bl (P, lq) (by simp)).2))
        have L22 := Lib.hid (fun x : At S => VB.load ((x.ok.1.bl (Q, hq) (by simp)).2))
        have L7 := Lib.hid (fun x : At S => VB.load (Blk.below HL2.out x.ok.1.b2 (Blk.lt HL2.out)))
        have L8 := Lib.hid (fun x : At S => VB.load (Blk.below HH2.out x.ok.1.b2 (Blk.lt HH2.out)))
        have L9 := Lib.hid (fun x : At S => VB.load (Blk.below HST2.out x.ok.1.b2 (Blk.lt HST2.out)))
        have hml : (L ++ [raw]).length ≤ 9223372036854775807 := by rw [List.length_append]; have := HL8.out; simp; omega
        obtain ⟨o1, ho1⟩ : ∃ x, outL lw hg (L ++ [raw]) 0 = x := ⟨_, rfl⟩
        obtain ⟨o2, ho2⟩ : ∃ x, outL lq hq (L ++ [raw]) 0 = x := ⟨_, rfl⟩
        obtain ⟨ep, hep⟩ : ∃ x, walkAt st L = x := ⟨_, rfl⟩
        have c1 := fun x : At S => cout_any a9 c9 (L ++ [raw]) lw hg x.w x.ok.2 hml
        have c2 := fun x : At S => rout_any rext_ok a9 c9 (L ++ [raw]) lw hg x.w x.ok.2 hml
        have c3 := fun x : At S => cout_any a9 c9 (L ++ [raw]) lq hq x.w x.ok.2 hml
        have c4 := fun x : At S => rout_any rext_ok a9 c9 (L ++ [raw]) lq hq x.w x.ok.2 hml
        have c5' := fun x : At S => cend_any a5 c5 L st x.w (HAT2.out.below x.ok.1.b2) (by rw [HLN.out]; omega)
        have c6 := fun x : At S => rend_any a5 c5 L st x.w (HAT2.out.below x.ok.1.b2) (by rw [HLN.out]; omega)
        rw [ho1] at c1 c2
        rw [ho2] at c3 c4
        rw [hep, HLN.out] at c5' c6
        have hM : (L ++ [raw]).length = L.length + 1 := by simp
        rw [hM] at c1 c2 c3 c4
        have C1 := Lib.hid (fun x : At S => (show Calls Tryz.prog 13 #[.slice a9 (L.length + 1) c9, .agg #[.int .i64 lw.1, .int .i64 lw.2.1, .int .i64 lw.2.2], .agg #[.int .i64 hg.1, .int .i64 hg.2.1, .int .i64 hg.2.2]] x.w _ from c1 x).mono (fun e w' h => (⟨h.1, SB _ _ x.ok h.2⟩ : e = .returned (.int .i64 o1) ∧ S w')))
        have C2 := Lib.hid (fun x : At S => (show Calls Tryz.prog 14 #[.slice a9 (L.length + 1) c9, .agg #[.int .i64 lw.1, .int .i64 lw.2.1, .int .i64 lw.2.2], .agg #[.int .i64 hg.1, .int .i64 hg.2.1, .int .i64 hg.2.2]] x.w _ from c2 x).mono (fun e w' h => (⟨h.1, SB _ _ x.ok h.2⟩ : e = .returned (.int .i64 o1) ∧ S w')))
        have C3 := Lib.hid (fun x : At S => (show Calls Tryz.prog 13 #[.slice a9 (L.length + 1) c9, .agg #[.int .i64 lq.1, .int .i64 lq.2.1, .int .i64 lq.2.2], .agg #[.int .i64 hq.1, .int .i64 hq.2.1, .int .i64 hq.2.2]] x.w _ from c3 x).mono (fun e w' h => (⟨h.1, SB _ _ x.ok h.2⟩ : e = .returned (.int .i64 o2) ∧ S w')))
        have C4 := Lib.hid (fun x : At S => (show Calls Tryz.prog 14 #[.slice a9 (L.length + 1) c9, .agg #[.int .i64 lq.1, .int .i64 lq.2.1, .int .i64 lq.2.2], .agg #[.int .i64 hq.1, .int .i64 hq.2.1, .int .i64 hq.2.2]] x.w _ from c4 x).mono (fun e w' h => (⟨h.1, SB _ _ x.ok h.2⟩ : e = .returned (.int .i64 o2) ∧ S w')))
        have C5 := Lib.hid (fun x : At S => (show Calls Tryz.prog 15 #[.slice a5 k c5, .agg #[.int .i64 st.1, .int .i64 st.2.1, .int .i64 st.2.2]] x.w _ from c5' x).mono (fun e w' h => (⟨h.1, SB _ _ x.ok h.2⟩ : e = .returned (.agg #[.int .i64 ep.1, .int .i64 ep.2.1, .int .i64 ep.2.2]) ∧ S w')))
        have C6 := Lib.hid (fun x : At S => (show Calls Tryz.prog 16 #[.slice a5 k c5, .agg #[.int .i64 st.1, .int .i64 st.2.1, .int .i64 st.2.2]] x.w _ from c6 x).mono (fun e w' h => (⟨h.1, SB _ _ x.ok h.2⟩ : e = .returned (.agg #[.int .i64 ep.1, .int .i64 ep.2.1, .int .i64 ep.2.2]) ∧ S w')))
        have EP := Lib.hid (vec_self p)
        have EQ := Lib.hid (vec_self q)
        have EE := Lib.hid (vec_self ep)
        have HF : Hid (∀ x : At S, ZT w2 ((Q, hq) :: (P, lq) :: [(F, p), (F + 1, q), (E, p), (E + 1, q)]) x.w) := Lib.hid (fun x => x.ok.1)
        clear c1 c2 c3 c4 c5' c6 ho1 ho2 hep SB hat9
        clear_value S
        refine wp_region_at S (by kernel_rfl) (by kernel_rfl) hs ?_
        try simp only [List.append_eq, List.cons_append, List.nil_append]
        repeat (first
          | (go_big_quiet_want; (first
              | refine quiet_load 23 (.tmp 17) rfl _ _ rfl L17.out ?_
              | refine quiet_load 23 (.tmp 18) rfl _ _ rfl L18.out ?_
              | refine quiet_load 23 (.tmp 19) rfl _ _ rfl L19.out ?_
              | refine quiet_load 23 (.tmp 20) rfl _ _ rfl L20.out ?_
              | refine quiet_load 23 (.tmp 21) rfl _ _ rfl L21.out ?_
              | refine quiet_load 23 (.tmp 22) rfl _ _ rfl L22.out ?_
              | refine quiet_load 23 (.tmp 7) rfl _ _ rfl L7.out ?_
              | refine quiet_load 23 (.tmp 8) rfl _ _ rfl L8.out ?_
              | refine quiet_load 23 (.tmp 9) rfl _ _ rfl L9.out ?_
              | refine quiet_eql 23 _ (.tmp 99) (.tmp 100) rfl #[.int .i64 p.1, .int .i64 p.2.1, .int .i64 p.2.2] #[.int .i64 p.1, .int .i64 p.2.1, .int .i64 p.2.2] true rfl rfl (by kernel_rfl) EP.out ?_
              | refine quiet_eql 23 _ (.tmp 104) (.tmp 105) rfl #[.int .i64 q.1, .int .i64 q.2.1, .int .i64 q.2.2] #[.int .i64 q.1, .int .i64 q.2.1, .int .i64 q.2.2] true rfl rfl (by kernel_rfl) EQ.out ?_
              | refine quiet_eql 23 _ (.tmp 133) (.tmp 136) rfl #[.int .i64 ep.1, .int .i64 ep.2.1, .int .i64 ep.2.2] #[.int .i64 ep.1, .int .i64 ep.2.1, .int .i64 ep.2.2] true rfl rfl (by kernel_rfl) EE.out ?_); simp only [Act.put, List.setIfInBounds_toArray, List.set_cons_zero, List.set_cons_succ]; go_big_quiet_on)
          | go_big_quiet_step (first | with_reducible exact Calls.at_of (KA.out _) fun e w' h => ⟨h.1, h.2⟩ | with_reducible exact Calls.at_of (C1.out _) fun e w' h => ⟨h.1, h.2⟩ | with_reducible exact Calls.at_of (C2.out _) fun e w' h => ⟨h.1, h.2⟩ | with_reducible exact Calls.at_of (C3.out _) fun e w' h => ⟨h.1, h.2⟩ | with_reducible exact Calls.at_of (C4.out _) fun e w' h => ⟨h.1, h.2⟩ | with_reducible exact Calls.at_of (C5.out _) fun e w' h => ⟨h.1, h.2⟩ | with_reducible exact Calls.at_of (C6.out _) fun e w' h => ⟨h.1, h.2⟩))
        refine wpQuiet_nil ?_
        rintro _ ⟨x, rfl⟩
        have hzx := HF.out x
        generalize x.w = WX at hzx ⊢
        have BEL := Lib.hid (BX2.out.trans (hzx.b2.mono BX2.out.size))
        clear HF inst hs KA C1 C2 C3 C4 C5 C6 EP EQ EE hzx L17 L18 L19 L20 L21 L22 L7 L8 L9
        go_wp2_with fail
        go_ret
        exact ⟨rfl, BEL.out⟩

theorem vec_leaves {W : World} {l : List Value} (hl : Leaves W vecKs l) : ∃ q : V3, l = [.int .i64 q.1, .int .i64 q.2.1, .int .i64 q.2.2] := by
  have hlen := hl.len
  unfold vecKs at hl hlen
  match l, hl, hlen with
  | [v0, v1, v2], hl, _ =>
    obtain ⟨h0, h1, h2, _⟩ := hl
    cases h0; cases h1; cases h2
    exact ⟨(_, _, _), rfl⟩
theorem lextent_card (c0 : List Value) (a1 : Option Addr) (len1 cap1 : Nat) (z1 : List Int) (c2 c3 c4 : List Value) (w : World) (hE : Env w) (k0 : Leaves w itKinds c0) (w1 : IsRow .i64 w a1 len1 cap1 z1) (hn : len1 ≤ 9223372036854775807) (k2 : Leaves w vecKs c2) (k3 : Leaves w vecKs c3) (k4 : Leaves w vecKs c4) :
    Calls Tryz.prog 3 #[.agg c0.toArray, .slice a1 len1 cap1, .agg c2.toArray, .agg c3.toArray, .agg c4.toArray] w fun e w' => e = .returned (.bool true) ∧ Below w.heap.size w w' := by
  obtain ⟨raw, rfl⟩ := it_leaves k0
  obtain ⟨lw, rfl⟩ := vec_leaves k2
  obtain ⟨hg, rfl⟩ := vec_leaves k3
  obtain ⟨st, rfl⟩ := vec_leaves k4
  rw [Array.toArray_toList]
  exact lextent_walk raw a1 len1 cap1 z1 lw hg st w hE w1 hn
end Go.Proofs.YtefdjdipbnnoaaaGreatDoor
