/-
  cnclaw16.table: a valid table out of any numbers. Any list.
-/
import Derived.Test.YtlpmbjgimllmgaaDoorValid16
namespace Go.Proofs.YtlpmbjgimllmgaaDoor
open Go Go.RowKit
set_option linter.unusedVariables false

theorem infoTo : (Tryd.prog.info? 29).map (fun i => (i.zero, i.size, i.bytes)) = some (some (.agg #[.int .i64 0, .int .i64 0, .int .i64 0, .int .i64 0]), 4, 32) := by kernel_rfl
theorem to_one (t : To) : ∀ u ∈ toC t, u.oneCell' = true := by
  intro u hu
  unfold toC at hu
  simp only [List.mem_cons, List.not_mem_nil, or_false] at hu
  rcases hu with rfl | rfl | rfl | rfl <;> rfl
theorem to_fill (x y z u : Int) : Instr.fill (fun i => some (i * 4, 4)) ((Array.range (1 * 4)).map ((Value.agg #[.int .i64 0, .int .i64 0, .int .i64 0, .int .i64 0]).cells[· % (Value.agg #[.int .i64 0, .int .i64 0, .int .i64 0, .int .i64 0]).cells.size]!)) [(0, .agg #[.int .i64 x, .int .i64 y, .int .i64 z, .int .i64 u])] = some #[.int .i64 x, .int .i64 y, .int .i64 z, .int .i64 u] := by with_unfolding_all rfl
theorem go_to1 {ops : Array Oper} {rest : List Oper} {a : Act} {w : World} {Q : Exit → Act → World → Prop} {dst : Option Tmp} {ty0 : TypeId} {pos : String} {after : Array Edge} (x : Operand) (k n p u : Int) (hx : a.eval x = .agg #[.int .i64 k, .int .i64 n, .int .i64 p, .int .i64 u])
    (h : wpList Tryd.prog ops Q rest (a.put dst (.slice (some ⟨w.heap.size, 0, none⟩) 1 1)) (w.alloc (.cells #[.int .i64 k, .int .i64 n, .int .i64 p, .int .i64 u] 29))) : wpList Tryd.prog ops Q (⟨dst, .buildSlice 22 1 #[(0, x)], ty0, pos, after, none⟩ :: rest) a w := by
  obtain ⟨i0, hi, hz0, hz1, hz2⟩ := info_parts infoTo
  refine go_buildSlice 22 29 1 _ #[.int .i64 k, .int .i64 n, .int .i64 p, .int .i64 u] i0 _ Tryd.underlying22 hi hz0 (by rw [hz1]; decide) (by rw [hz1]; decide) ?_ h
  rw [hz1]
  simp only [List.map_toArray, List.map_cons, List.map_nil, hx]
  exact to_fill _ _ _ _
/-- append of one tool that lies in a block of its own. -/
theorem go_toapp {ops : Array Oper} {rest : List Oper} {a : Act} {w : World} {Q : Exit → Act → World → Prop} {dst : Option Tmp} {ty0 : TypeId} {pos : String} {after : Array Edge} (x y : Operand) {base : Nat} {v : Value} (ts : List To) (t : To) (g : Nat)
    (hx : a.eval x = v) (hown : w.ownsRow base 29 4 v ts.length (tosC ts)) (hy : a.eval y = .slice (some ⟨g, 0, none⟩) 1 1) (hg : Blk w g 29 (toC t).toArray) (hn : ts.length ≤ 1000000) (hb : base ≤ w.heap.size)
    (h : ∀ v' w', w'.ownsRow base 29 4 v' (ts ++ [t]).length (tosC (ts ++ [t])) → w.grownBy w' v.ownBlock → wpList Tryd.prog ops Q rest (a.put dst v') w') : wpList Tryd.prog ops Q (⟨dst, .call { callee := .builtin .append, args := #[x, y], argTypes := #[22, 22] }, ty0, pos, after, none⟩ :: rest) a w := by
  obtain ⟨i0, hi, hz0, hz1, hz2⟩ := info_parts infoTo
  refine wpList_append_lies w rfl x y 22 rfl base 29 i0 (.agg #[.int .i64 0, .int .i64 0, .int .i64 0, .int .i64 0]) 4 32 Tryd.underlying22 hi hz0 hz1 hz2 (by kernel_rfl) (by decide) v ts.length (tosC ts) hx hown ⟨g, 0, none⟩ 1 1 (toC t) hy rfl ?_ (to_one t) (by omega) (by unfold maxLen; omega) (by omega) hb w.heap.size rfl ?_
  · intro j u hu
    rw [Addr.add_mid, Nat.zero_add, hg.cell]
    simpa using hu
  · intro g' c' w' hown' hgrow _ _
    rw [← tosC_snoc] at hown'
    have e : ts.length + 1 = (ts ++ [t]).length := by simp
    rw [e] at hown'
    have := h (.slice (some ⟨g', 0, none⟩) (ts ++ [t]).length c') w' hown' hgrow
    rw [← e] at this
    exact this
theorem own_keept {W W' : World} {base g : Nat} {v : Value} {l : List To} (h : W.ownsRow base 29 4 v l.length (tosC l)) (hb : g < base) (hg : W.grownBy W' (some g)) : W'.ownsRow base 29 4 v l.length (tosC l) := own_grown h hg (by intro k hk; injection hk; omega)
/-- What stands while a tool is made: the tape, the table so far, and perhaps the tool's block. -/
structure TJ (g : Nat) (a : Option Addr) (n c : Nat) (z : Nat → Int) (v : Value) (ts : List To) (w W : World) : Prop where
  src : ∃ k, Src W g g a n c z k
  own : W.ownsRow (g + 1) 29 4 v ts.length (tosC ts)
  bel : Below g w W
  lt : g < W.heap.size
section
variable {g n c : Nat} {a : Option Addr} {z : Nat → Int} {v : Value} {ts : List To} {w W W' : World}
theorem TJ.take (h : TJ g a n c z v ts w W) {k : Nat} (hs : Src W' g g a n c z k) (hg : W.grownBy W' (some g)) : TJ g a n c z v ts w W' :=
  ⟨⟨k, hs⟩, own_keept h.own (Nat.lt_succ_self _) hg, h.bel.trans (below_of_grown hg (by have := h.lt; omega) (by intro k hk; injection hk; omega)), by have := hg.size; have := h.lt; omega⟩
theorem TJ.alloc (h : TJ g a n c z v ts w W) (o : Obj) : TJ g a n c z v ts w (W.alloc o) :=
  ⟨by obtain ⟨k, hs⟩ := h.src; exact ⟨k, hs.alloc o⟩, h.own.alloc o, h.bel.alloc (by have := h.lt; omega) o, by simp; have := h.lt; omega⟩
theorem TJ.set (h : TJ g a n c z v ts w W) {b : Nat} (hb : g < b) (hne : v.ownBlock ≠ some b) (i : Nat) (u : Value) : TJ g a n c z v ts w (W.setCell ⟨b, i, none⟩ u) :=
  ⟨by obtain ⟨k, hs⟩ := h.src; exact ⟨k, hs.setCell (by show g ≤ b; omega) (by show b ≠ g; omega) u⟩, h.own.kept (grown_setCell (grown_refl _ _) (.inl rfl) u) (.inr hne), h.bel.setCell (by show g ≤ b; omega) u, by simpa [World.setCell] using h.lt⟩
end
theorem table_good {lw rw ln rd : Int} (h1 : -500 ≤ lw ∧ lw ≤ 500) (h2 : -500 ≤ rw ∧ rw ≤ 500) (h3 : 500 ≤ ln ∧ ln ≤ 900000) (h4 : 500 ≤ rd ∧ rd ≤ 32000) : toGood ⟨ln, lw, rd, rw⟩ = true := by
  rw [toGood_iff]
  unfold inC
  simp only
  omega
/-- A valid table of at most five tools, in new memory. -/
def TablePost (w : World) (e : Ending) (w' : World) : Prop :=
  ∃ v ts, e = .returned v ∧ validT ts = true ∧ ts.length ≤ 5 ∧ w'.ownsRow w.heap.size 29 4 v ts.length (tosC ts) ∧ Below w.heap.size w w'
set_option maxRecDepth 100000 in
set_option maxHeartbeats 2000000 in
theorem table_any (w : World) (a : Option Addr) (n c : Nat) (zs : List Int) (hr : IsRow .i64 w a n c zs) (hn : n ≤ 9223372036854775807) :
    Calls Tryd.prog 11 #[.slice a n c] w (TablePost w) := by
  have KN := Lib.hid (tape_new w a n c zs hr hn)
  obtain ⟨z, hz⟩ : ∃ z, (fun i => zs.getD i 0) = z := ⟨_, rfl⟩
  rw [hz] at KN
  clear hr hz
  go_enter Tryd.func11, Tryd.ntmps11
  go_wp2_with fail
  refine KN.out.mono ?_
  rintro e w1 ⟨rfl, hs1, b1⟩
  have J1 := Lib.hid (⟨⟨0, hs1⟩, World.ownsRow_nil _ _ _ _, b1, hs1.lt⟩ : TJ w.heap.size a n c z (.slice none 0 0) [] w w1)
  have KX := Lib.hid (next_any w1 w.heap.size w.heap.size a n c z 6 ⟨0, hs1⟩ (by omega) (by omega))
  clear hs1 b1 KN
  go_wp2_with fail
  refine KX.out.mono ?_
  rintro e w2 ⟨r, k2, hr0, hr1, rfl, hs2, hg2⟩
  have J2 := Lib.hid (J1.out.take hs2 hg2)
  clear hs2 hg2 J1 KX
  go_wp2_with fail
  go_loopw [4, 5] (fun s4 s5 wr => ∃ (ts : List To) (r : Int) (v4 : Value), v4 = s4 ∧ s5 = .int .i64 r ∧ 0 ≤ r ∧ (ts.length : Int) + r ≤ 5 ∧ (∀ t ∈ ts, toGood t = true) ∧ TJ w.heap.size a n c z v4 ts w wr)
    (fun _ s5 _ => (intOf s5).toNat)
  case atStart => exact ⟨[], r, _, rfl, rfl, hr0, by simp; omega, fun t h => by simp at h, J2.out⟩
  case round =>
    obtain ⟨ts, r, v4, rfl, rfl, hr0, hlen, hgood, hJ⟩ := hrel
    have HJ := Lib.hid hJ
    have HG := Lib.hid hgood
    have hltr := hJ.lt
    clear hJ hgood J2
    by_cases hpos : 0 < r
    · have d1 : decide (0 < r) = true := decide_eq_true hpos
      have K3 := Lib.hid (range_any wr w.heap.size w.heap.size a n c z (-500) (500) HJ.out.src (by omega) (by omega) (by omega))
      go_wp2_with fail
      refine K3.out.mono ?_
      rintro e w3 ⟨lw, k3, hl3, hh3, rfl, hs3, hg3⟩
      have J3 := Lib.hid (HJ.out.take hs3 hg3)
      clear hs3 hg3 K3 HJ
      have K4 := Lib.hid (range_any w3 w.heap.size w.heap.size a n c z (-500) (500) J3.out.src (by omega) (by omega) (by omega))
      go_wp2_with fail
      refine K4.out.mono ?_
      rintro e w4 ⟨rw, k4, hl4, hh4, rfl, hs4, hg4⟩
      have J4 := Lib.hid (J3.out.take hs4 hg4)
      have hlt4 := J4.out.lt
      clear hs4 hg4 K4 J3
      have J5 := Lib.hid (J4.out.alloc (.cells #[.int .i64 0, .int .i64 lw, .int .i64 0, .int .i64 rw] 29))
      have B5 := Lib.hid (Blk.new w4 29 #[.int .i64 0, .int .i64 lw, .int .i64 0, .int .i64 rw])
      have N5 := Lib.hid (show v4.ownBlock ≠ some w4.heap.size from fun e => (by have := (J4.out.own.lt _ e).2; omega))
      go_wp2_with ((with_reducible refine go_built 29 _ #[.int .i64 0, .int .i64 lw, .int .i64 0, .int .i64 rw] (by with_unfolding_all kernel_rfl) ?_))
      obtain ⟨w5, hw5⟩ : ∃ w5, w4.alloc (.cells #[.int .i64 0, .int .i64 lw, .int .i64 0, .int .i64 rw] 29) = w5 := ⟨_, rfl⟩
      obtain ⟨b5, hb5⟩ : ∃ b5, w4.heap.size = b5 := ⟨_, rfl⟩
      rw [hw5] at J5 B5
      rw [hb5] at B5 N5 hlt4
      simp only [hw5, hb5]
      have K6 := Lib.hid (range_any w5 w.heap.size w.heap.size a n c z 500 900000 J5.out.src (by omega) (by omega) (by omega))
      clear hw5 J4
      refine K6.out.mono ?_
      rintro e w6 ⟨ln, k6, hl6, hh6, rfl, hs6, hg6⟩
      have J6 := Lib.hid (J5.out.take hs6 hg6)
      have B6 := Lib.hid (B5.out.grown hg6 (fun e => by injection e; omega))
      clear hs6 hg6 K6 J5 B5
      have K7 := Lib.hid (range_any w6 w.heap.size w.heap.size a n c z (500) (32000) J6.out.src (by omega) (by omega) (by omega))
      go_wp2_with fail
      refine K7.out.mono ?_
      rintro e w7 ⟨rd, k7, hl7, hh7, rfl, hs7, hg7⟩
      have J7 := Lib.hid (J6.out.take hs7 hg7)
      have B7 := Lib.hid (B6.out.grown hg7 (fun e => by injection e; omega))
      clear hs7 hg7 K7 J6 B6
      have f0 : w7.frozen? ⟨b5, 0, none⟩ = false := B7.out.frozen 0
      have c0 : w7.cell? ⟨b5, 0, none⟩ = some (.int .i64 0) := B7.out.cell 0
      have B8 := Lib.hid (B7.out.put 0 (.int .i64 ln))
      have f2 : (w7.setCell ⟨b5, 0, none⟩ (.int .i64 ln)).frozen? ⟨b5, 2, none⟩ = false := B8.out.frozen 2
      have c2 : (w7.setCell ⟨b5, 0, none⟩ (.int .i64 ln)).cell? ⟨b5, 2, none⟩ = some (.int .i64 0) := B8.out.cell 2
      have B9 := Lib.hid (B8.out.put 2 (.int .i64 rd))
      have J9 := Lib.hid ((J7.out.set hlt4 (fun e => N5.out e) 0 (.int .i64 ln)).set hlt4 (fun e => N5.out e) 2 (.int .i64 rd))
      have q0 : ((w7.setCell ⟨b5, 0, none⟩ (.int .i64 ln)).setCell ⟨b5, 2, none⟩ (.int .i64 rd)).cell? ⟨b5, 0, none⟩ = some (.int .i64 ln) := B9.out.cell 0
      have q1 : ((w7.setCell ⟨b5, 0, none⟩ (.int .i64 ln)).setCell ⟨b5, 2, none⟩ (.int .i64 rd)).cell? ⟨b5, 1, none⟩ = some (.int .i64 lw) := B9.out.cell 1
      have q2 : ((w7.setCell ⟨b5, 0, none⟩ (.int .i64 ln)).setCell ⟨b5, 2, none⟩ (.int .i64 rd)).cell? ⟨b5, 2, none⟩ = some (.int .i64 rd) := B9.out.cell 2
      have q3 : ((w7.setCell ⟨b5, 0, none⟩ (.int .i64 ln)).setCell ⟨b5, 2, none⟩ (.int .i64 rd)).cell? ⟨b5, 3, none⟩ = some (.int .i64 rw) := B9.out.cell 3
      have HGT := Lib.hid (table_good ⟨hl3, hh3⟩ ⟨hl4, hh4⟩ ⟨hl6, hh6⟩ ⟨hl7, hh7⟩)
      have lt9 := J9.out.lt
      have szs : ((w7.setCell ⟨b5, 0, none⟩ (.int .i64 ln)).setCell ⟨b5, 2, none⟩ (.int .i64 rd)).heap.size = w7.heap.size := by simp [World.setCell]
      rw [szs] at lt9
      clear J7 B7 B8 B9
      go_wp2_with (first
        | ((with_reducible refine go_to1 (.tmp 27) ln lw rd rw (by with_unfolding_all rfl) ?_))
        | ((with_reducible refine go_toapp (.tmp 26) (.tmp 28) ts ⟨ln, lw, rd, rw⟩ _ (by with_unfolding_all rfl) (J9.out.own.alloc _) (by with_unfolding_all rfl) (by with_unfolding_all exact Blk.new ((w7.setCell ⟨b5, 0, none⟩ (.int .i64 ln)).setCell ⟨b5, 2, none⟩ (.int .i64 rd)) _ _) (by omega) (by simp; omega) ?_); intro v' w10 hown10 hgrow; have JA := J9.out.alloc (.cells #[.int .i64 ln, .int .i64 lw, .int .i64 rd, .int .i64 rw] 29); have J10 : TJ w.heap.size a n c z v' (ts ++ [⟨ln, lw, rd, rw⟩]) w w10 := ⟨by obtain ⟨kk, hsk⟩ := JA.src; exact ⟨kk, hsk.keep (hgrow.block w.heap.size (by have := JA.lt; omega) (fun e => by have := (JA.own.lt _ e.symm).1; omega)) (fun p hp => World.cell?_of_block (hgrow.block p.block (by have := JA.lt; omega) (fun e => by have := (JA.own.lt _ e.symm).1; omega)))⟩, hown10, JA.bel.trans (below_of_grown hgrow (by have := JA.lt; omega) (fun k e => by have := (JA.own.lt k e).1; omega)), by have := hgrow.size; have := JA.lt; omega⟩; have FF := Lib.hid J10; clear hown10 hgrow JA J10))
      go_roundw
      case rel => exact ⟨ts ++ [⟨ln, lw, rd, rw⟩], r - 1, _, rfl, by rfl, by omega, by rw [List.length_append]; simp; omega, fun t ht => by
        rcases List.mem_append.1 ht with ht | ht
        · exact HG.out t ht
        · simp at ht; subst ht; exact HGT.out, FF.out⟩
      case measure => simp [intOf]; omega
    · have d1 : decide (0 < r) = false := decide_eq_false hpos
      have hv : validT ts = true := by
        unfold validT
        rw [decide_eq_true (by omega), List.all_eq_true.2 HG.out]
        rfl
      have HV := Lib.hid hv
      have hl5 : ts.length ≤ 5 := by omega
      have HO := Lib.hid (own_base HJ.out.own (Nat.le_succ _))
      have HB := Lib.hid HJ.out.bel
      obtain ⟨a5, c5, rfl, _, _⟩ := tos_own HJ.out.own
      clear hv HJ
      go_wp2_with fail
      go_ret
      exact ⟨_, ts, rfl, HV.out, hl5, HO.out, HB.out⟩
end Go.Proofs.YtlpmbjgimllmgaaDoor
