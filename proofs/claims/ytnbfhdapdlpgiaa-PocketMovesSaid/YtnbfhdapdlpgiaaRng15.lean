/-
  pocket.count, pocket.rings and its closure: the sizes of the rings come, in order. Sizes: 1 to the greatest int; steps: from 1 on.
-/
import Derived.RangeFuncNested
import Derived.RangeFuncBound
import Derived.RangeFuncCalls
import Derived.RangeFuncLeaves
import Derived.RangeFuncBox
import Derived.Shelf.Abstract
import Derived.Shelf.RegionOpen
import Derived.WalkKit
import Derived.OwnWalkIn
import Derived.TacticsInMore
import Derived.LoopNIn
import Derived.LoopIn
import Derived.Maps.AppendAt
import Derived.Test.YtnbfhdapdlpgiaaRngP
import Derived.Test.YtnbfhdapdlpgiaaChecked
namespace Go.Proofs.Ytnbfhdapdlpgiaa
open Go Go.RowKit Go.Shelf
set_option linter.unusedVariables false
attribute [local go_sem] Oper.semAt_some

theorem count_any (size step : Int) (w : World) (h1 : 1 ≤ size) (h1' : size ≤ 9223372036854775807) (h2 : 1 ≤ step) :
    Calls Try.prog 22 #[.int .i64 size, .int .i64 step] w fun e w' => e = .returned (.int .i64 (rgN size step)) ∧ w = w' := by
  have hq : (size - 1).tdiv step = (size - 1) / step := Int.tdiv_eq_ediv_of_nonneg (by omega)
  have hb0 := Int.ediv_nonneg (show 0 ≤ size - 1 by omega) (show 0 ≤ step by omega)
  have hb1 := Int.ediv_le_self step (show 0 ≤ size - 1 by omega)
  rw [rgN_cast h1 h2]
  generalize (size - 1) / step = q at *
  have d0 : (step == 0) = false := by simp; omega
  go_enter Try.func22, Try.ntmps22
  go_wp2
  go_ret
  exact ⟨ret_int rfl, rfl⟩

theorem rings_any (size step : Int) (w : World) :
    Calls Try.prog 24 #[.int .i64 size, .int .i64 step] w fun e w' => e = .returned (.func (.func 31) #[] #[.pointer (some ⟨w.heap.size, 0, none⟩), .pointer (some ⟨w.heap.size + 1, 0, none⟩)]) ∧
      w' = (w.alloc (.cells #[.int .i64 size] 3)).alloc (.cells #[.int .i64 step] 3) := by
  go_enter Try.func24, Try.ntmps24
  go_wp2
  go_ret
  exact ⟨rfl, rfl⟩

/-- What a round keeps for the iterator: its two numbers. -/
def KpR (Bs Bt : Nat) (A B : World) : Prop := B.cell? ⟨Bs, 0, none⟩ = A.cell? ⟨Bs, 0, none⟩ ∧ B.cell? ⟨Bt, 0, none⟩ = A.cell? ⟨Bt, 0, none⟩
theorem kpR_t {Bs Bt : Nat} : ∀ {A B C : World}, KpR Bs Bt A B → KpR Bs Bt B C → KpR Bs Bt A C := fun h k => ⟨k.1.trans h.1, k.2.trans h.2⟩
theorem kpR_b {Bs Bt B : Nat} (h1 : Bs < B) (h2 : Bt < B) : ∀ (W : World) (l : Nat) (o o' : Obj), B ≤ l → W.heap[l]? = some o → o.isCells = false → o.isWalk = false → KpR Bs Bt W (W.putObj l o') := fun W l o o' hl _ _ _ => by
  have e1 : (W.putObj l o').heap[Bs]? = W.heap[Bs]? := World.putObj_heap_other (by omega)
  have e2 : (W.putObj l o').heap[Bt]? = W.heap[Bt]? := World.putObj_heap_other (by omega)
  exact ⟨by simp [World.cell?, e1], by simp [World.cell?, e2]⟩
theorem kpR_of {Bs Bt n : Nat} {A B : World} (h : Below n A B) (h1 : Bs < n) (h2 : Bt < n) : KpR Bs Bt A B := ⟨h.cell (p := ⟨Bs, 0, none⟩) h1, h.cell (p := ⟨Bt, 0, none⟩) h2⟩

set_option maxRecDepth 100000 in
set_option maxHeartbeats 1000000 in
theorem rings1_in (n : Nat) (hn : 1 ≤ n) (l Bs Bt : Nat) (size step : Int) (h1 : 1 ≤ size) (h1' : size ≤ 9223372036854775807) (h2 : 1 ≤ step) (J Jx : List Int → World → Prop)
    (hY : ∀ pre x W, J pre W → pre.length < rgN size step → 1 ≤ x ∧ x ≤ size → YieldAt Fence.wide (n - 1) Try.prog l #[.int .i64 x] W fun e W' =>
      (e = .returned (.bool true) ∧ J (pre ++ [x]) W' ∧ KpR Bs Bt W W') ∨ (e = .returned (.bool false) ∧ Jx (pre ++ [x]) W'))
    (W : World) (hs : W.cell? ⟨Bs, 0, none⟩ = some (.int .i64 size)) (ht : W.cell? ⟨Bt, 0, none⟩ = some (.int .i64 step)) (h0 : J [] W) :
    CallsIn Fence.wide n Try.prog 31 #[.func (.yield l) #[] #[], .pointer (some ⟨Bs, 0, none⟩), .pointer (some ⟨Bt, 0, none⟩)] W fun e W' => (∃ v, e = .returned v) ∧
      ((∃ ys, ys = ringsL size step ∧ J ys W') ∨ (∃ pre, pre <+: ringsL size step ∧ Jx pre W')) := by
  have hpos := rgN_pos h1 h2
  refine callsIn_of_wp Try.func31 rfl trivial ?_ rfl
  simp only [Try.ntmps31, List.size_toArray, List.length_cons, List.length_nil, Nat.reduceAdd, Nat.reduceSub, Array.replicate_succ, Array.replicate_zero, List.push_toArray, List.append_toArray, List.nil_append, List.cons_append]
  gi_wp2_with (refine ⟨trivial, ?_⟩; gi_at_call 22; refine (callsIn_wide.2 (count_any size step _ h1 h1' h2)).mono ?_; rintro e w' ⟨rfl, rfl⟩)
  gi_loopw [5] (fun i wr => ∃ j : Nat, j + 1 ≤ rgN size step ∧ i = .int .i64 ((j : Int) + 1) ∧ J ((ringsL size step).take j) wr ∧ KpR Bs Bt W wr)
    (fun i _ => rgN size step - (intOf i).toNat)
  case atStart => exact ⟨0, hpos, rfl, h0, rfl, rfl⟩
  case round =>
    obtain ⟨j, hj, rfl, hJs, hnx⟩ := hrel
    have hs' := hnx.1.trans hs
    have ht' := hnx.2.trans ht
    have htl : ((ringsL size step).take j).length = j := by rw [List.length_take, ringsL_len]; omega
    have hts := ringsL_take_succ size step j (by omega)
    by_cases hlt : j + 1 < rgN size step
    · have hjb : (j : Int) + 1 + 1 ≤ 9223372036854775807 := by have := rgN_cast h1 h2; have := Int.ediv_le_self step (show 0 ≤ size - 1 by omega); omega
      have hm := mul_lt h1 h2 hlt
      have hr := ring_mid hlt
      rw [hr] at hts
      have d1 : decide ((j : Int) + 1 < (rgN size step : Int)) = true := by simp; omega
      generalize hx : ((j : Int) + 1) * step = x at *
      have hw : IntKind.i64.wrap (((j : Int) + 1) * step) = x := by rw [hx, IntKind.wrap_i64]; omega
      obtain ⟨fn, tmps, assign, body, hy, hR⟩ := hY _ x wr hJs (by rw [htl]; omega) (by omega)
      rw [← hts] at hR
      have HTS := Lib.hid hts
      have hx1 : 0 ≤ x := by omega
      have hx2 : x ≤ 9223372036854775807 := by omega
      clear hr hts htl hs hm
      gi_wp2
      refine hR.mono ?_
      rintro e W3 (⟨rfl, hJ3, hk3⟩ | ⟨rfl, hJx3⟩)
      · gi_wp2
        go_roundw
        case rel => exact ⟨j + 1, by omega, by go_num, hJ3, kpR_t hnx hk3⟩
        case measure => simp [intOf]; omega
      · gi_wp2
        refine bodyPost_ret (results_none rfl _ _ _) rfl ?_
        exact ⟨⟨_, rfl⟩, .inr ⟨_, List.take_prefix _ _, hJx3⟩⟩
    · have hl := ring_last (size := size) (step := step) (k := j) (by omega)
      have d1 : decide ((j : Int) + 1 < (rgN size step : Int)) = false := by simp; omega
      rw [hl] at hts
      obtain ⟨fn, tmps, assign, body, hy, hR⟩ := hY _ size wr hJs (by rw [htl]; omega) (by omega)
      have hall : (ringsL size step).take (j + 1) = ringsL size step := List.take_of_length_le (by rw [ringsL_len]; omega)
      rw [← hts, hall] at hR
      have HTS := Lib.hid hts
      have HALL := Lib.hid hall
      clear hl hts htl hs hall
      gi_wp2
      refine hR.mono ?_
      rintro e W3 (⟨rfl, hJ3, hk3⟩ | ⟨rfl, hJx3⟩)
      · gi_wp2
        go_end0
        exact ⟨⟨_, rfl⟩, .inl ⟨_, rfl, hJ3⟩⟩
      · gi_wp2
        go_end0
        exact ⟨⟨_, rfl⟩, .inr ⟨_, List.prefix_refl _, hJx3⟩⟩

theorem rings_stops (n : Nat) (hn : 1 ≤ n) (Bs Bt : Nat) (size step : Int) (h1 : 1 ≤ size) (h1' : size ≤ 9223372036854775807) (h2 : 1 ≤ step) (w : World)
    (hs : w.cell? ⟨Bs, 0, none⟩ = some (.int .i64 size)) (ht : w.cell? ⟨Bt, 0, none⟩ = some (.int .i64 step)) (hBs : Bs < w.heap.size) (hBt : Bt < w.heap.size) :
    SeqStopsK Fence.wide n Try.prog 31 #[.pointer (some ⟨Bs, 0, none⟩), .pointer (some ⟨Bt, 0, none⟩)] (fun x : Int => #[Value.int .i64 x]) (KpR Bs Bt) (fun ys => ys = ringsL size step) (fun pre => pre <+: ringsL size step) (rgN size step) w :=
  fun l J Jx W hW _ _ hY h0 => rings1_in n hn l Bs Bt size step h1 h1' h2 J Jx (fun pre x W1 hJ hl _ => hY pre x W1 hJ hl) W ((hW.cell (p := ⟨Bs, 0, none⟩) (show Bs < w.heap.size by omega)).trans hs) ((hW.cell (p := ⟨Bt, 0, none⟩) (show Bt < w.heap.size by omega)).trans ht) h0

/-- A number that a ring may have as its size. -/
abbrev Rg (size : Int) := { x : Int // 1 ≤ x ∧ x ≤ size }
theorem rings_stopsR (n : Nat) (hn : 1 ≤ n) (Bs Bt : Nat) (size step : Int) (h1 : 1 ≤ size) (h1' : size ≤ 9223372036854775807) (h2 : 1 ≤ step) (w : World)
    (hs : w.cell? ⟨Bs, 0, none⟩ = some (.int .i64 size)) (ht : w.cell? ⟨Bt, 0, none⟩ = some (.int .i64 step)) (hBs : Bs < w.heap.size) (hBt : Bt < w.heap.size) :
    SeqStopsK Fence.wide n Try.prog 31 #[.pointer (some ⟨Bs, 0, none⟩), .pointer (some ⟨Bt, 0, none⟩)] (fun x : Rg size => #[Value.int .i64 x.1]) (KpR Bs Bt) (fun ys => ys.map (·.1) = ringsL size step) (fun pre => True) (rgN size step) w :=
  fun l J Jx W hW _ _ hY h0 => by
    refine (rings1_in n hn l Bs Bt size step h1 h1' h2 (fun pre W => ∃ p : List (Rg size), p.map (·.1) = pre ∧ J p W) (fun pre W => ∃ p : List (Rg size), p.map (·.1) = pre ∧ Jx p W) ?_ W
      ((hW.cell (p := ⟨Bs, 0, none⟩) (show Bs < w.heap.size by omega)).trans hs) ((hW.cell (p := ⟨Bt, 0, none⟩) (show Bt < w.heap.size by omega)).trans ht) ⟨[], rfl, h0⟩).mono ?_
    · rintro pre x W1 ⟨p, rfl, hJ⟩ hl hx
      obtain ⟨fn, tmps, assign, body, hy, hR⟩ := hY p ⟨x, hx⟩ W1 hJ (by simpa using hl)
      refine ⟨fn, tmps, assign, body, hy, hR.mono ?_⟩
      rintro e W' (⟨h, hJ', hk⟩ | ⟨h, hJ'⟩)
      · exact .inl ⟨h, ⟨_, by simp, hJ'⟩, hk⟩
      · exact .inr ⟨h, _, by simp, hJ'⟩
    · rintro e W' ⟨hv, h⟩
      refine ⟨hv, ?_⟩
      rcases h with ⟨ys, hys, p, hp, hJ⟩ | ⟨pre, _, p, _, hJ⟩
      · exact .inl ⟨p, hp.trans hys, hJ⟩
      · exact .inr ⟨p, trivial, hJ⟩

theorem infoInt : (Try.prog.info? 3).map (fun i => (i.zero, i.size, i.bytes)) = some (some (.int .i64 0), 1, 8) := by kernel_rfl

/-- What collecting leaves: a row of the call's own. -/
def Coll (w : World) (l : List Int) (e : Ending) (w' : World) : Prop := ∃ v, e = .returned v ∧ w'.ownsRow w.heap.size 3 1 v l.length (l.map (Value.int .i64)) ∧ Below w.heap.size w w'

set_option maxRecDepth 100000 in
set_option maxHeartbeats 2000000 in
theorem appendSeq_in (n : Nat) (hn : 3 ≤ n) (Bs Bt : Nat) (size step : Int) (h1 : 1 ≤ size) (h1' : size ≤ 9223372036854775807) (h2 : 1 ≤ step) (hN : rgN size step ≤ 1000) (w : World)
    (hs : w.cell? ⟨Bs, 0, none⟩ = some (.int .i64 size)) (ht : w.cell? ⟨Bt, 0, none⟩ = some (.int .i64 step)) (hBs : Bs < w.heap.size) (hBt : Bt < w.heap.size) :
    CallsIn Fence.wide n Try.prog 30 #[.slice none 0 0, .func (.func 31) #[] #[.pointer (some ⟨Bs, 0, none⟩), .pointer (some ⟨Bt, 0, none⟩)]] w (Coll w (ringsL size step)) := by
  have h1n : 1 ≤ n := by omega
  obtain ⟨i0, hi, hz0, hz1, hz2⟩ := info_parts infoInt
  refine callsIn_of_wp_marks Try.func30 rfl trivial ?_ rfl
  simp only [Try.ntmps30, List.size_toArray, List.length_cons, List.length_nil, Nat.reduceAdd, Nat.reduceSub, Array.replicate_succ, Array.replicate_zero, List.push_toArray, List.append_toArray, List.nil_append, List.cons_append]
  gi_wp2
  have bO := Boxed.new w 25 (.slice none 0 0)
  have hB0 : Below w.heap.size w (w.alloc (.cells #[.slice none 0 0] 25)) := (Below.refl _ w).alloc (Nat.le_refl _) _
  refine wpIn_rangeFunc_ownG rfl h1n (gf := 31) (lb := #[.pointer (some ⟨Bs, 0, none⟩), .pointer (some ⟨Bt, 0, none⟩)]) rfl trivial (enters_of Try.func31 (by kernel_rfl) rfl)
    (rings_stops (n - 1) (by omega) Bs Bt size step h1 h1' h2 _ ((hB0.cell (p := ⟨Bs, 0, none⟩) hBs).trans hs) ((hB0.cell (p := ⟨Bt, 0, none⟩) hBt).trans ht) (by simp; omega) (by simp; omega)) kpR_t (kpR_b (by simp; omega) (by simp; omega)) (Below.refl _ _) (fun _ => rfl)
    (fun pre W => (∃ v, Boxed W w.heap.size 25 v ∧ W.ownsRow w.heap.size 3 1 v pre.length (pre.map (Value.int .i64)) ∧ True) ∧ Below w.heap.size w W)
    (fun _ _ _ => False)
    (OwnFrom.and (Own.from (holdsRow_own w.heap.size w.heap.size 25 3 1 (fun pre : List Int => pre.length) (fun pre => pre.map (Value.int .i64)) (fun pre v => True)) _) (ownFrom_below (Nat.le_refl _) (by simp)))
    (fun _ _ _ _ _ hs _ _ => hs)
    ⟨⟨_, bO, World.ownsRow_nil _ _ _ _, trivial⟩, hB0⟩
    (fun x => { tmps := #[.slice none 0 0, .func (.func 31) #[] #[.pointer (some ⟨Bs, 0, none⟩), .pointer (some ⟨Bt, 0, none⟩)], .pointer (some ⟨w.heap.size, 0, none⟩), undef, .slice none 0 0, .int .i64 x, .func (.func 31) #[] #[.pointer (some ⟨Bs, 0, none⟩), .pointer (some ⟨Bt, 0, none⟩)], .int .i64 x, undef, undef, undef, undef, undef], defers := [] }) ?assign ?body ?done ?stop
  case assign =>
    intro l x W K hK
    gi_wp2
    exact hK
  case body =>
    rintro l pre x W ⟨⟨v, hv, hrow, _⟩, hB⟩ hlt
    have hc := hv.cell
    gi_wp2_with (gi_at_builtin; refine wpListIn_append_own _ rfl _ _ 25 rfl w.heap.size 3 i0 (.int .i64 0) 1 8 Try.underlying25 hi hz0 hz1 hz2 rfl (by decide) _ _ _ rfl (hrow.alloc _) ⟨W.heap.size, 0, none⟩ 1 1 [.int .i64 x] rfl rfl (cell_one_new _ _ _) (by simp [Value.oneCell']) (by unfold maxLen; omega) (by omega) (by have := hB.size; simp; omega) ?_; intro v' w1 hown' hgrow _; obtain ⟨g', cap', rfl⟩ := ownsRow_succ hown'; obtain ⟨hv1, hv2, hr2, hk2, hb2⟩ := hv.appended (by decide) hrow hB.size (Nat.le_refl _) hown' hgrow; have hc1 := hv1.cell; have hf1 := hv1.frozen)
    exact ⟨hk2.from _, kpR_of hb2 hBs hBt, ⟨_, hv2, by simpa using hr2, trivial⟩, hB.trans hb2⟩
  case done =>
    rintro D ys W hD rfl ⟨⟨v, hv, hrow, _⟩, hB⟩ hK
    have hc := hv.cell
    gi_wp2
    refine ⟨by simp, .inl ⟨_, _, rfl, run_takeDeferred hK, ?_⟩⟩
    exact ⟨_, results_tmp rfl _ _ _, v, rfl, ownsRow_putObj hrow _ hK rfl, hB.trans (belowK_b (w := w) (Nat.le_refl _) W D _ _ (by simp at hD; omega) hK rfl rfl)⟩
  case stop =>
    rintro D c pre W _ _ h _
    exact h.elim

theorem collect_any (Bs Bt : Nat) (size step : Int) (h1 : 1 ≤ size) (h1' : size ≤ 9223372036854775807) (h2 : 1 ≤ step) (hN : rgN size step ≤ 1000) (w : World)
    (hs : w.cell? ⟨Bs, 0, none⟩ = some (.int .i64 size)) (ht : w.cell? ⟨Bt, 0, none⟩ = some (.int .i64 step)) (hBs : Bs < w.heap.size) (hBt : Bt < w.heap.size) :
    Calls Try.prog 23 #[.func (.func 31) #[] #[.pointer (some ⟨Bs, 0, none⟩), .pointer (some ⟨Bt, 0, none⟩)]] w (Coll w (ringsL size step)) := by
  go_enter Try.func23, Try.ntmps23
  go_wp2_with (go_at_call 30; refine (callsIn_wide.1 (appendSeq_in 3 (by omega) Bs Bt size step h1 h1' h2 hN _ hs ht hBs hBt)).mono ?_; rintro e w' ⟨v, rfl, own, bel⟩)
  go_ret
  exact ⟨v, rfl, own, bel⟩

def RingsRow (size step : Int) : List Int := if 1 ≤ size ∧ 1 ≤ step ∧ rgN size step ≤ 1000 then ringsL size step else []

set_option maxHeartbeats 1000000 in
/-- pocket.Rings: any two numbers. -/
theorem Rings_any (size step : Int) (w : World) (hw : size ≤ 9223372036854775807) :
    Calls Try.prog 13 #[.int .i64 size, .int .i64 step] w (Coll w (RingsRow size step)) := by
  by_cases h1 : 1 ≤ size
  · by_cases h2 : 1 ≤ step
    · by_cases hN : rgN size step ≤ 1000
      · have e : RingsRow size step = ringsL size step := if_pos ⟨h1, h2, hN⟩
        rw [e]
        clear e
        have d1 : decide ((1000 : Int) < (rgN size step : Int)) = false := by simp; omega
        go_enter Try.func13, Try.ntmps13
        go_wp2_with (first
          | (go_at_call 22; refine (count_any size step _ h1 hw h2).mono ?_; rintro e w' ⟨rfl, rfl⟩)
          | (go_at_call 24; refine (rings_any size step _).mono ?_; rintro e w' ⟨rfl, rfl⟩)
          | (go_at_call 23; refine (collect_any w.heap.size (w.heap.size + 1) size step h1 hw h2 hN _ (by simp [go_sem]) (by simp [go_sem]) (by simp; omega) (by simp)).mono ?_; rintro e w' ⟨v, rfl, own, bel⟩))
        go_ret
        exact ⟨v, rfl, own_base own (by simp; omega), (((Below.refl _ _).alloc (Nat.le_refl _) _).alloc (by simp) _).trans (bel.mono (by simp; omega))⟩
      · have e : RingsRow size step = [] := if_neg (by omega)
        rw [e]
        clear e
        have d1 : decide ((1000 : Int) < (rgN size step : Int)) = true := by simp; omega
        go_enter Try.func13, Try.ntmps13
        go_wp2_with (go_at_call 22; refine (count_any size step _ h1 hw h2).mono ?_; rintro e w' ⟨rfl, rfl⟩)
        go_ret
        exact ⟨_, rfl, World.ownsRow_nil _ _ _ _, Below.refl _ _⟩
    · have e : RingsRow size step = [] := if_neg (by omega)
      rw [e]
      clear e
      go_enter Try.func13, Try.ntmps13
      go_wp2_with fail
      go_ret
      exact ⟨_, rfl, World.ownsRow_nil _ _ _ _, Below.refl _ _⟩
  · have e : RingsRow size step = [] := if_neg (by omega)
    rw [e]
    clear e
    go_enter Try.func13, Try.ntmps13
    go_wp2_with fail
    go_ret
    exact ⟨_, rfl, World.ownsRow_nil _ _ _ _, Below.refl _ _⟩
end Go.Proofs.Ytnbfhdapdlpgiaa
