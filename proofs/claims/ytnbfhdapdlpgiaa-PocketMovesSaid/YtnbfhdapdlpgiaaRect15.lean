/-
  pocket.Rectangle: the motions of a rectangular pocket, where its arguments are good.
-/
import Derived.Test.YtnbfhdapdlpgiaaRectB15
import Derived.Test.YtnbfhdapdlpgiaaHeldBy
import Derived.LoopIn
namespace Go.Proofs.Ytnbfhdapdlpgiaa
open Go Go.RowKit Go.Shelf
set_option linter.unusedVariables false
attribute [local go_sem] Oper.semAt_some

/-- The five points of a ring, by their place. -/
def pu (a : Int) : Nat → Int | 0 => a | 1 => a | 2 => -a | 3 => -a | _ => a
def pw (b : Int) : Nat → Int | 0 => -b | 1 => b | 2 => b | 3 => -b | _ => -b
def fiveL (cu cw a b : Int) (j : Nat) : List (List Value) := (List.range j).map fun i => lineL (cu + pu a i) (cw + pw b i)
theorem fiveL_succ (cu cw a b : Int) (j : Nat) : fiveL cu cw a b (j + 1) = fiveL cu cw a b j ++ [lineL (cu + pu a j) (cw + pw b j)] := by simp [fiveL, List.range_succ]
theorem fiveL_len (cu cw a b : Int) (j : Nat) : (fiveL cu cw a b j).length = j := by simp [fiveL]
theorem fiveL_all (cu cw wd dp size r : Int) : fiveL cu cw (hlf wd size r) (hlf dp size r) 5 = ringR cu cw wd dp size r := by
  unfold ringR
  generalize hlf wd size r = a
  generalize hlf dp size r = b
  show [lineL (cu + a) (cw + -b), lineL (cu + a) (cw + b), lineL (cu + -a) (cw + b), lineL (cu + -a) (cw + -b), lineL (cu + a) (cw + -b)] = _
  simp only [← Int.sub_eq_add_neg]
theorem pu_bd (a : Int) (j : Nat) (h0 : 0 ≤ a) (h1 : a ≤ 1048576) : -1048576 ≤ pu a j ∧ pu a j ≤ 1048576 := by unfold pu; split <;> omega
theorem pw_bd (b : Int) (j : Nat) (h0 : 0 ≤ b) (h1 : b ≤ 1048576) : -1048576 ≤ pw b j ∧ pw b j ≤ 1048576 := by unfold pw; split <;> omega
/-- A point of the five. -/
theorem index5 (a b : Int) (j : Nat) (hj : j < 5) (W : World) : (Instr.index 51 (.agg #[.int .i64 a, .int .i64 (-b), .int .i64 a, .int .i64 b, .int .i64 (-a), .int .i64 b, .int .i64 (-a), .int .i64 (-b), .int .i64 a, .int .i64 (-b)]) (.int .i64 (j : Int))).run Try.prog W = .ok (.agg #[.int .i64 (pu a j), .int .i64 (pw b j)]) W := by
  match j, hj with
  | 0, _ => with_unfolding_all rfl
  | 1, _ => with_unfolding_all rfl
  | 2, _ => with_unfolding_all rfl
  | 3, _ => with_unfolding_all rfl
  | 4, _ => with_unfolding_all rfl

/-- The greater one of 0 and a number. -/
theorem max0 {o : Oper} {a : Act} (x : Operand) (n r : Int) (h : o.op = .call { callee := .builtin .max, args := #[.const (.int .i64 0), x], argTypes := #[3, 3] }) (hx : a.eval x = .int .i64 n) (hr : (if 0 < n then n else 0) = r) (W : World) :
    (execOp a.eval o).run Try.prog W = .ok (.value (.int .i64 r)) W := by
  subst hr
  unfold execOp
  simp only [h, resolve, invoke, builtin, Sem.run_bind, Sem.run_pure, Result.andThen_ok, List.map_toArray, List.map_cons, List.map_nil, hx, show a.eval (.const (.int .i64 0)) = .int .i64 0 from rfl]
  by_cases p : 0 < n
  · rw [if_pos p]; go_simp
  · rw [if_neg p]; go_simp
/-- A slice of one motion is made, at a step of a drawn region. -/
theorem wp_slice1 {o : Oper} {a : Act} {w : World} {K : Act → World → Prop} {Q : Exit → Act → World → Prop} (x : Operand) (u v : Int) (ho : o.op = .buildSlice 30 1 #[(0, x)]) (hx : a.eval x = .agg (lineL u v).toArray)
    (h : K (a.put o.dst (.slice (some ⟨w.heap.size, 0, none⟩) 1 1)) (w.alloc (.cells (lineL u v).toArray 40))) : o.wp Try.prog a w K Q := by
  unfold Oper.wp execOp
  simp only [ho, List.map_toArray, List.map_cons, List.map_nil, hx, Sem.run_bind, slice1, Result.andThen_ok, Sem.run_pure]
  exact h
theorem setFar {W : World} {p q : Addr} {u v : Value} (h : W.cell? p = some v) (hne : p.block ≠ q.block) : (W.setCell q u).cell? p = some v := by
  rw [World.cell?_setCell_far W q p u (Ne.symm hne), h]
set_option maxRecDepth 100000 in
set_option maxHeartbeats 8000000 in
theorem rect_main (cu cw wd dp step : Int) (w : World) (hg : goodR cu cw wd dp step) (hN : rgN (mxx wd dp) step ≤ 1000) :
    Calls Try.prog 19 #[.agg #[.int .i64 cu, .int .i64 cw], .int .i64 wd, .int .i64 dp, .int .i64 step] w (Out w (rectL cu cw wd dp step) 0) := by
  unfold rectL
  obtain ⟨g1, g2, g3, g4, g5, g6, ⟨u1, u2⟩, v1, v2⟩ := hg
  have hsz : (if wd < dp then dp else wd) = mxx wd dp := rfl
  have hs1 := mxx_bd g1 g2 g3 g4 g5
  generalize mxx wd dp = size at *
  obtain ⟨hs1, hs2⟩ := hs1
  have z0 : (size == 0) = false := by simp; omega
  obtain ⟨i0, hi, hz0, hz1, hz2⟩ := info_parts infoItem
  have d1 : decide ((1000 : Int) < (rgN size step : Int)) = false := by simp; omega
  obtain ⟨L, eL⟩ : ∃ L, recL cu cw wd dp size (ringsL size step) ++ [lineL cu cw] = L := ⟨_, rfl⟩
  rw [eL]
  have EL := Lib.hid eL
  clear eL
  refine (callsIn_wide (n := 6)).1 ?_
  refine callsIn_of_wp_marks Try.func19 rfl trivial ?_ rfl
  simp only [Try.ntmps19, List.size_toArray, List.length_cons, List.length_nil, Nat.reduceAdd, Nat.reduceSub, Array.replicate_succ, Array.replicate_zero, List.push_toArray, List.append_toArray, List.nil_append, List.cons_append]
  gi_wp2_with (refine ⟨trivial, ?_⟩; first
    | (gi_at_call 26; (with_reducible refine (callsIn_wide.2 (coordinate_yes _ _ (by assumption) (by assumption))).mono ?_); rintro e w' ⟨rfl, rfl⟩)
    | (gi_at_call 22; refine (callsIn_wide.2 (count_any size step _ (by omega) (by omega) (by omega))).mono ?_; rintro e w' ⟨rfl, rfl⟩)
    | (gi_at_call 24; refine (callsIn_wide.2 (rings_any size step _)).mono ?_; rintro e w' ⟨rfl, rfl⟩))
  have hB0 : Below (w.heap.size + 4) ((((w.alloc (.cells #[.int .i64 cu, .int .i64 cw] 29)).alloc (.cells #[.int .i64 wd] 3)).alloc (.cells #[.int .i64 dp] 3)).alloc (.cells #[.int .i64 size] 3)) (((((((w.alloc (.cells #[.int .i64 cu, .int .i64 cw] 29)).alloc (.cells #[.int .i64 wd] 3)).alloc (.cells #[.int .i64 dp] 3)).alloc (.cells #[.int .i64 size] 3)).alloc (.cells #[.slice none 0 0] 30)).alloc (.cells #[.int .i64 size] 3)).alloc (.cells #[.int .i64 step] 3)) :=
    (((Below.refl _ _).alloc (by simp) _).alloc (by simp) _).alloc (by simp) _
  have bO : Boxed (((((((w.alloc (.cells #[.int .i64 cu, .int .i64 cw] 29)).alloc (.cells #[.int .i64 wd] 3)).alloc (.cells #[.int .i64 dp] 3)).alloc (.cells #[.int .i64 size] 3)).alloc (.cells #[.slice none 0 0] 30)).alloc (.cells #[.int .i64 size] 3)).alloc (.cells #[.int .i64 step] 3)) (w.heap.size + 4) 30 (.slice none 0 0) := by
    have := ((Boxed.new ((((w.alloc (.cells #[.int .i64 cu, .int .i64 cw] 29)).alloc (.cells #[.int .i64 wd] 3)).alloc (.cells #[.int .i64 dp] 3)).alloc (.cells #[.int .i64 size] 3)) 30 (.slice none 0 0)).alloc (.cells #[.int .i64 size] 3)).alloc (.cells #[.int .i64 step] 3)
    simpa using this
  have bR : Boxed (((((((w.alloc (.cells #[.int .i64 cu, .int .i64 cw] 29)).alloc (.cells #[.int .i64 wd] 3)).alloc (.cells #[.int .i64 dp] 3)).alloc (.cells #[.int .i64 size] 3)).alloc (.cells #[.slice none 0 0] 30)).alloc (.cells #[.int .i64 size] 3)).alloc (.cells #[.int .i64 step] 3)) (w.heap.size + 5) 3 (.int .i64 size) := by
    have := (Boxed.new (((((w.alloc (.cells #[.int .i64 cu, .int .i64 cw] 29)).alloc (.cells #[.int .i64 wd] 3)).alloc (.cells #[.int .i64 dp] 3)).alloc (.cells #[.int .i64 size] 3)).alloc (.cells #[.slice none 0 0] 30)) 3 (.int .i64 size)).alloc (.cells #[.int .i64 step] 3)
    simpa using this
  have bS : Boxed (((((((w.alloc (.cells #[.int .i64 cu, .int .i64 cw] 29)).alloc (.cells #[.int .i64 wd] 3)).alloc (.cells #[.int .i64 dp] 3)).alloc (.cells #[.int .i64 size] 3)).alloc (.cells #[.slice none 0 0] 30)).alloc (.cells #[.int .i64 size] 3)).alloc (.cells #[.int .i64 step] 3)) (w.heap.size + 6) 3 (.int .i64 step) := by
    have := Boxed.new ((((((w.alloc (.cells #[.int .i64 cu, .int .i64 cw] 29)).alloc (.cells #[.int .i64 wd] 3)).alloc (.cells #[.int .i64 dp] 3)).alloc (.cells #[.int .i64 size] 3)).alloc (.cells #[.slice none 0 0] 30)).alloc (.cells #[.int .i64 size] 3)) 3 (.int .i64 step)
    simpa using this
  have hc0 : ((((w.alloc (.cells #[.int .i64 cu, .int .i64 cw] 29)).alloc (.cells #[.int .i64 wd] 3)).alloc (.cells #[.int .i64 dp] 3)).alloc (.cells #[.int .i64 size] 3)).cell? ⟨w.heap.size, 0, none⟩ = some (.int .i64 cu) := by simp [go_sem]
  have hc1 : ((((w.alloc (.cells #[.int .i64 cu, .int .i64 cw] 29)).alloc (.cells #[.int .i64 wd] 3)).alloc (.cells #[.int .i64 dp] 3)).alloc (.cells #[.int .i64 size] 3)).cell? ⟨w.heap.size, 1, none⟩ = some (.int .i64 cw) := by simp [go_sem]
  have hcw : ((((w.alloc (.cells #[.int .i64 cu, .int .i64 cw] 29)).alloc (.cells #[.int .i64 wd] 3)).alloc (.cells #[.int .i64 dp] 3)).alloc (.cells #[.int .i64 size] 3)).cell? ⟨w.heap.size + 1, 0, none⟩ = some (.int .i64 wd) := by simp [go_sem]
  have hcd : ((((w.alloc (.cells #[.int .i64 cu, .int .i64 cw] 29)).alloc (.cells #[.int .i64 wd] 3)).alloc (.cells #[.int .i64 dp] 3)).alloc (.cells #[.int .i64 size] 3)).cell? ⟨w.heap.size + 2, 0, none⟩ = some (.int .i64 dp) := by simp [go_sem]
  have hcs : ((((w.alloc (.cells #[.int .i64 cu, .int .i64 cw] 29)).alloc (.cells #[.int .i64 wd] 3)).alloc (.cells #[.int .i64 dp] 3)).alloc (.cells #[.int .i64 size] 3)).cell? ⟨w.heap.size + 3, 0, none⟩ = some (.int .i64 size) := by simp [go_sem]
  have hsz4 : ((((w.alloc (.cells #[.int .i64 cu, .int .i64 cw] 29)).alloc (.cells #[.int .i64 wd] 3)).alloc (.cells #[.int .i64 dp] 3)).alloc (.cells #[.int .i64 size] 3)).heap.size = w.heap.size + 4 := by simp
  have hb4 : Below w.heap.size w ((((w.alloc (.cells #[.int .i64 cu, .int .i64 cw] 29)).alloc (.cells #[.int .i64 wd] 3)).alloc (.cells #[.int .i64 dp] 3)).alloc (.cells #[.int .i64 size] 3)) := rect_below w cu cw wd dp size
  refine cap_frame fun a' ha' => ?_
  generalize h4 : ((((w.alloc (.cells #[.int .i64 cu, .int .i64 cw] 29)).alloc (.cells #[.int .i64 wd] 3)).alloc (.cells #[.int .i64 dp] 3)).alloc (.cells #[.int .i64 size] 3)) = w4 at *
  refine wpIn_rangeFunc_ownG rfl (by omega) (gf := 31) (lb := #[.pointer (some ⟨w.heap.size + 5, 0, none⟩), .pointer (some ⟨w.heap.size + 6, 0, none⟩)]) (by subst ha'; rfl) trivial (enters_of Try.func31 (by kernel_rfl) rfl)
    (rings_stopsR 5 (by omega) (w.heap.size + 5) (w.heap.size + 6) size step (by omega) (by omega) (by omega) _ bR.cell bS.cell bR.lt bS.lt) kpR_t (kpR_b bR.lt bS.lt) (Below.refl _ _) (fun _ => rfl)
    (fun pre W => (∃ v, Boxed W (w.heap.size + 4) 30 v ∧ W.ownsRow (w.heap.size + 4) 40 22 v (recL cu cw wd dp size (pre.map (·.1))).length (recL cu cw wd dp size (pre.map (·.1))).flatten ∧ True) ∧ (Boxed W (w.heap.size + 5) 3 (.int .i64 size) ∧ Boxed W (w.heap.size + 6) 3 (.int .i64 step)) ∧ Below (w.heap.size + 4) w4 W)
    (fun _ _ _ => False)
    (OwnFrom.and (Own.from (holdsRow_own (w.heap.size + 4) (w.heap.size + 4) 30 40 22 (fun pre : List (Rg size) => (recL cu cw wd dp size (pre.map (·.1))).length) (fun pre => (recL cu cw wd dp size (pre.map (·.1))).flatten) (fun pre v => True)) _) (OwnFrom.and (OwnFrom.and (Own.from (boxed_own _ _ _) _) (Own.from (boxed_own _ _ _) _)) (ownFrom_below (by first | omega | (simp; omega)) (by first | omega | (simp; omega)))))
    (fun _ _ _ _ _ hs _ _ => hs)
    ⟨⟨_, bO, World.ownsRow_nil _ _ _ _, trivial⟩, ⟨bR, bS⟩, hB0⟩
    (fun x => (a'.put (some 59) (.int .i64 x.1)).put (some 12) (.int .i64 x.1)) ?assign ?body ?done ?stop
  case assign =>
    intro l x W K hK
    subst ha'
    simp only [Act.put, List.setIfInBounds_toArray, List.set_cons_zero, List.set_cons_succ] at hK
    gi_wp2
    exact hK
  case body =>
    rintro l pre ⟨x, hx1, hx2⟩ W ⟨⟨v, hv, hrow, _⟩, ⟨hR, hSt⟩, hB⟩ hlt
    subst ha'
    simp only [Act.put, List.setIfInBounds_toArray, List.set_cons_zero, List.set_cons_succ]
    have c0 := (hB.cell (p := ⟨w.heap.size, 0, none⟩) (by simp)).trans hc0
    have c1 := (hB.cell (p := ⟨w.heap.size, 1, none⟩) (by simp)).trans hc1
    have cwd := (hB.cell (p := ⟨w.heap.size + 1, 0, none⟩) (by simp)).trans hcw
    have cdp := (hB.cell (p := ⟨w.heap.size + 2, 0, none⟩) (by simp)).trans hcd
    have csz := (hB.cell (p := ⟨w.heap.size + 3, 0, none⟩) (by simp)).trans hcs
    have hszW : w.heap.size + 4 ≤ W.heap.size := by have := hB.size; omega
    have hRl := hSt.lt
    have hlen := recL_len cu cw wd dp size (pre.map (·.1))
    rw [List.length_map] at hlen
    have hl1 : (recL cu cw wd dp size (pre.map (·.1))).length ≤ 5000 := by omega
    have F5 := fiveL_all cu cw wd dp size x
    have ha : (if 0 < wd - (size - x) then wd - (size - x) else 0) = hlf wd size x := rfl
    have hb : (if 0 < dp - (size - x) then dp - (size - x) else 0) = hlf dp size x := rfl
    have hab : 0 ≤ hlf wd size x ∧ hlf wd size x ≤ 1048576 := by unfold hlf; split <;> omega
    have hbb : 0 ≤ hlf dp size x ∧ hlf dp size x ≤ 1048576 := by unfold hlf; split <;> omega
    have E1 : recL cu cw wd dp size ((pre ++ [(⟨x, hx1, hx2⟩ : Rg size)]).map (·.1)) = (recL cu cw wd dp size (pre.map (·.1))) ++ ringR cu cw wd dp size x := by
      rw [List.map_append]; exact recL_snoc _ _ _ _ _ _ _
    rw [← F5] at E1
    clear F5
    generalize hlf wd size x = a at *
    generalize hlf dp size x = b at *
    obtain ⟨ha1, ha2⟩ := hab
    obtain ⟨hb1, hb2⟩ := hbb
    obtain ⟨len, elen⟩ : ∃ len, (recL cu cw wd dp size (pre.map (·.1))).length = len := ⟨_, rfl⟩
    obtain ⟨xs, exs⟩ : ∃ xs, (recL cu cw wd dp size (pre.map (·.1))).flatten = xs := ⟨_, rfl⟩
    have EE := Lib.hid (show (recL cu cw wd dp size ((pre ++ [(⟨x, hx1, hx2⟩ : Rg size)]).map (·.1))).length = len + 5 ∧ (recL cu cw wd dp size ((pre ++ [(⟨x, hx1, hx2⟩ : Rg size)]).map (·.1))).flatten = xs ++ (fiveL cu cw a b 5).flatten from by
      rw [E1, List.length_append, List.flatten_append, elen, exs, fiveL_len]; exact ⟨rfl, rfl⟩)
    rw [elen, exs] at hrow
    rw [elen] at hl1
    clear hlen elen exs E1 hB0 bO bR bS hc0 hc1 hcw hcd hcs h4 hb4 z0 d1
    have w1 : IntKind.i64.wrap (size - x) = size - x := by rw [IntKind.wrap_i64]; omega
    have w2 : IntKind.i64.wrap (wd - (size - x)) = wd - (size - x) := by rw [IntKind.wrap_i64]; omega
    have w3 : IntKind.i64.wrap (dp - (size - x)) = dp - (size - x) := by rw [IntKind.wrap_i64]; omega
    have sw : ∀ W', W.grownBy W' none → W'.cell? ⟨w.heap.size + 1, 0, none⟩ = some (.int .i64 wd) := fun W' h => ((below_of_grown0 h).cell (p := ⟨w.heap.size + 1, 0, none⟩) (by show w.heap.size + 1 < _; omega)).trans cwd
    have sd : ∀ W', W.grownBy W' none → W'.cell? ⟨w.heap.size + 2, 0, none⟩ = some (.int .i64 dp) := fun W' h => ((below_of_grown0 h).cell (p := ⟨w.heap.size + 2, 0, none⟩) (by show w.heap.size + 2 < _; omega)).trans cdp
    have ss : ∀ W', W.grownBy W' none → W'.cell? ⟨w.heap.size + 3, 0, none⟩ = some (.int .i64 size) := fun W' h => ((below_of_grown0 h).cell (p := ⟨w.heap.size + 3, 0, none⟩) (by show w.heap.size + 3 < _; omega)).trans csz
    gi_wp2
    refine wpIn_region_round (S := fun w' => W.grownBy w' none) (by kernel_rfl) (by kernel_rfl) (by rintro ⟨a, w, h⟩; exact h) (grown_drew (grown_refl _ _)) fun hS0 => ?_
    refine take_first 0 (v := .int .i64 wd) rfl (by kernel_rfl) (by kernel_rfl) (by kernel_rfl) (fun _ _ _ h => h) rfl (fun W' hW' => by have e0 := sw W' hW'; go_simp) hS0 ?_
    refine take_first 1 (v := .int .i64 size) rfl (by kernel_rfl) (by kernel_rfl) (by kernel_rfl) (fun _ _ _ h => h) rfl (fun W' hW' => by have e0 := ss W' hW'; go_simp) hS0 ?_
    refine take_first 2 (v := .int .i64 x) rfl (by kernel_rfl) (by kernel_rfl) (by kernel_rfl) (fun _ _ _ h => h) rfl (fun W' hW' => by go_simp) hS0 ?_
    refine take_first 3 (v := .int .i64 (size - x)) rfl (by kernel_rfl) (by kernel_rfl) (by kernel_rfl) (fun _ _ _ h => h) rfl (fun W' hW' => by go_simp) hS0 ?_
    refine take_first 4 (v := .int .i64 (wd - (size - x))) rfl (by kernel_rfl) (by kernel_rfl) (by kernel_rfl) (fun _ _ _ h => h) rfl (fun W' hW' => by go_simp) hS0 ?_
    refine take_first 5 (v := .int .i64 a) rfl (by kernel_rfl) (by kernel_rfl) (by kernel_rfl) (fun _ _ _ h => h) rfl (fun W' hW' => by exact max0 (.tmp 64) (wd - (size - x)) a rfl (by go_simp) ha W') hS0 ?_
    refine take_first 6 (v := .int .i64 dp) rfl (by kernel_rfl) (by kernel_rfl) (by kernel_rfl) (fun _ _ _ h => h) rfl (fun W' hW' => by have e0 := sd W' hW'; go_simp) hS0 ?_
    refine take_first 7 (v := .int .i64 size) rfl (by kernel_rfl) (by kernel_rfl) (by kernel_rfl) (fun _ _ _ h => h) rfl (fun W' hW' => by have e0 := ss W' hW'; go_simp) hS0 ?_
    refine take_first 8 (v := .int .i64 x) rfl (by kernel_rfl) (by kernel_rfl) (by kernel_rfl) (fun _ _ _ h => h) rfl (fun W' hW' => by go_simp) hS0 ?_
    refine take_first 9 (v := .int .i64 (size - x)) rfl (by kernel_rfl) (by kernel_rfl) (by kernel_rfl) (fun _ _ _ h => h) rfl (fun W' hW' => by go_simp) hS0 ?_
    refine take_first 10 (v := .int .i64 (dp - (size - x))) rfl (by kernel_rfl) (by kernel_rfl) (by kernel_rfl) (fun _ _ _ h => h) rfl (fun W' hW' => by go_simp) hS0 ?_
    refine take_first 11 (v := .int .i64 b) rfl (by kernel_rfl) (by kernel_rfl) (by kernel_rfl) (fun _ _ _ h => h) rfl (fun W' hW' => by exact max0 (.tmp 70) (dp - (size - x)) b rfl (by go_simp) hb W') hS0 ?_
    refine take_first 12 (v := .int .i64 a) rfl (by kernel_rfl) (by kernel_rfl) (by kernel_rfl) (fun _ _ _ h => h) rfl (fun W' hW' => by go_simp) hS0 ?_
    refine take_first 13 (v := .int .i64 b) rfl (by kernel_rfl) (by kernel_rfl) (by kernel_rfl) (fun _ _ _ h => h) rfl (fun W' hW' => by go_simp) hS0 ?_
    refine wpAnyH_done (by kernel_rfl) ?_ _
    clear w1 w2 w3 sw sd ss cwd cdp csz ha hb hs1 hs2
    have n1 : IntKind.i64.wrap (-a) = -a := by rw [IntKind.wrap_i64]; omega
    have n2 : IntKind.i64.wrap (-b) = -b := by rw [IntKind.wrap_i64]; omega
    go_simp
    gi_wp2
    gi_loopw [93] (fun v93 wr => ∃ j : Nat, j ≤ 5 ∧ v93 = .int .i64 j ∧ (∃ v', Boxed wr (w.heap.size + 4) 30 v' ∧ wr.ownsRow (w.heap.size + 4) 40 22 v' (len + j) (xs ++ (fiveL cu cw a b j).flatten)) ∧ KeepsOthers W wr ∧ (Boxed wr (w.heap.size + 5) 3 (.int .i64 size) ∧ Boxed wr (w.heap.size + 6) 3 (.int .i64 step)) ∧ Below (w.heap.size + 4) W wr)
      (fun v93 _ => 5 - (intOf v93).toNat)
    case atStart => exact ⟨0, by omega, rfl, ⟨v, hv.kept hS0 (by simp), by simpa [fiveL] using hrow.kept hS0 (Classical.em _)⟩, KeepsOthers.drew W, ⟨hR.kept hS0 (by simp), hSt.kept hS0 (by simp)⟩, (below_of_grown0 hS0).mono (by omega)⟩
    case round =>
      obtain ⟨j, hj, rfl, ⟨v', hv', hrow'⟩, hk, ⟨hR', hS'⟩, hb'⟩ := hrel
      by_cases hlt5 : j < 5
      · have d1 : decide (j < 5) = true := by simp; omega
        have hI5 := index5 a b j hlt5
        have pb := pu_bd a j ha1 ha2
        have qb := pw_bd b j hb1 hb2
        obtain ⟨pb1, pb2⟩ := pb
        obtain ⟨qb1, qb2⟩ := qb
        have i3 : IntKind.i64.wrap ((j : Int) + 1) = (j : Int) + 1 := by rw [IntKind.wrap_i64]; omega
        have i1 : IntKind.i64.wrap (cu + pu a j) = cu + pu a j := by rw [IntKind.wrap_i64]; omega
        have i2 : IntKind.i64.wrap (cw + pw b j) = cw + pw b j := by rw [IntKind.wrap_i64]; omega
        have hszr := hb'.size
        have hSl := hS'.lt
        have k0 := (hb'.cell (p := ⟨w.heap.size, 0, none⟩) (by simp)).trans c0
        have k1 := (hb'.cell (p := ⟨w.heap.size, 1, none⟩) (by simp)).trans c1
        gi_wp2
        have G1 : wr.grownBy (wr.alloc (.cells #[.int .i64 (pu a j), .int .i64 (pw b j)] 29)) none := grown_alloc (grown_refl _ _) _
        have b1 : Blk (wr.alloc (.cells #[.int .i64 (pu a j), .int .i64 (pw b j)] 29)) wr.heap.size 29 #[.int .i64 (pu a j), .int .i64 (pw b j)] := Blk.new wr _ _
        generalize wr.alloc (.cells #[.int .i64 (pu a j), .int .i64 (pw b j)] 29) = W1 at *
        have b1l := b1.lt
        have hv1 := hv'.kept G1 (by simp)
        have hR1 := hR'.kept G1 (by simp)
        have hS1 := hS'.kept G1 (by simp)
        have hrow1 := hrow'.kept G1 (Classical.em _)
        have hk1 := hk.trans (KeepsOthers.of_grownBy G1 (by simp))
        have hb1 := hb'.trans ((below_of_grown0 G1).mono (by omega))
        have s0 := ((below_of_grown0 G1).cell (p := ⟨w.heap.size, 0, none⟩) (by show w.heap.size < _; omega)).trans k0
        have s1 := ((below_of_grown0 G1).cell (p := ⟨w.heap.size, 1, none⟩) (by show w.heap.size < _; omega)).trans k1
        have s2 : W1.cell? ⟨wr.heap.size, 0, none⟩ = some (.int .i64 (pu a j)) := b1.cell' 0 rfl
        have s3 : W1.cell? ⟨wr.heap.size, 1, none⟩ = some (.int .i64 (pw b j)) := b1.cell' 1 rfl
        have hne0 : some w.heap.size ≠ v'.ownBlock := by intro e; have := (hrow'.lt _ e.symm).1; omega
        have hne2 : some wr.heap.size ≠ v'.ownBlock := by intro e; have := (hrow'.lt _ e.symm).2; omega
        have hq : ∀ w', W1.grownBy w' none → w'.cell? ⟨w.heap.size, 0, none⟩ = some (.int .i64 cu) ∧ w'.cell? ⟨w.heap.size, 1, none⟩ = some (.int .i64 cw) ∧ w'.cell? ⟨wr.heap.size, 0, none⟩ = some (.int .i64 (pu a j)) ∧ w'.cell? ⟨wr.heap.size, 1, none⟩ = some (.int .i64 (pw b j)) := fun w' h => ⟨((below_of_grown0 h).cell (p := ⟨w.heap.size, 0, none⟩) (by show w.heap.size < _; omega)).trans s0, ((below_of_grown0 h).cell (p := ⟨w.heap.size, 1, none⟩) (by show w.heap.size < _; omega)).trans s1, ((below_of_grown0 h).cell (p := ⟨wr.heap.size, 0, none⟩) (by show wr.heap.size < _; omega)).trans s2, ((below_of_grown0 h).cell (p := ⟨wr.heap.size, 1, none⟩) (by show wr.heap.size < _; omega)).trans s3⟩
        clear hv' hR' hS' hrow' hk hb' k0 k1 hI5 G1 b1 hv hrow hR hSt hB c0 c1
        have g0 : W1.grownBy W1.drew none := grown_drew (grown_refl _ _)
        refine wpIn_region_round (S := fun w' => w'.cell? ⟨w.heap.size, 0, none⟩ = some (.int .i64 cu) ∧ w'.cell? ⟨w.heap.size, 1, none⟩ = some (.int .i64 cw) ∧ w'.cell? ⟨wr.heap.size, 0, none⟩ = some (.int .i64 (pu a j)) ∧ w'.cell? ⟨wr.heap.size, 1, none⟩ = some (.int .i64 (pw b j))) (by kernel_rfl) (by kernel_rfl) (by rintro ⟨a, w, h⟩; exact h) (hq _ g0) fun hS0 => ?_
        refine take_first 1 (v := .pointer (some ⟨w.heap.size, 0, none⟩)) rfl (by kernel_rfl) (by kernel_rfl) (by kernel_rfl) (fun _ _ _ h => h) rfl (fun W' hW' => by go_simp) hS0 ?_
        refine take_first 2 (v := .int .i64 cu) rfl (by kernel_rfl) (by kernel_rfl) (by kernel_rfl) (fun _ _ _ h => h) rfl (fun W' hW' => by have e0 := hW'.1; go_simp) hS0 ?_
        refine take_first 3 (v := .pointer (some ⟨wr.heap.size, 0, none⟩)) rfl (by kernel_rfl) (by kernel_rfl) (by kernel_rfl) (fun _ _ _ h => h) rfl (fun W' hW' => by go_simp) hS0 ?_
        refine take_first 4 (v := .int .i64 (pu a j)) rfl (by kernel_rfl) (by kernel_rfl) (by kernel_rfl) (fun _ _ _ h => h) rfl (fun W' hW' => by have e0 := hW'.2.2.1; go_simp) hS0 ?_
        refine take_first 5 (v := .int .i64 (cu + pu a j)) rfl (by kernel_rfl) (by kernel_rfl) (by kernel_rfl) (fun _ _ _ h => h) rfl (fun W' hW' => by go_simp) hS0 ?_
        refine take_first 6 (v := .pointer (some ⟨w.heap.size, 1, none⟩)) rfl (by kernel_rfl) (by kernel_rfl) (by kernel_rfl) (fun _ _ _ h => h) rfl (fun W' hW' => by go_simp) hS0 ?_
        refine take_first 7 (v := .int .i64 cw) rfl (by kernel_rfl) (by kernel_rfl) (by kernel_rfl) (fun _ _ _ h => h) rfl (fun W' hW' => by have e0 := hW'.2.1; go_simp) hS0 ?_
        refine take_first 8 (v := .pointer (some ⟨wr.heap.size, 1, none⟩)) rfl (by kernel_rfl) (by kernel_rfl) (by kernel_rfl) (fun _ _ _ h => h) rfl (fun W' hW' => by go_simp) hS0 ?_
        refine take_first 9 (v := .int .i64 (pw b j)) rfl (by kernel_rfl) (by kernel_rfl) (by kernel_rfl) (fun _ _ _ h => h) rfl (fun W' hW' => by have e0 := hW'.2.2.2; go_simp) hS0 ?_
        refine take_first 10 (v := .int .i64 (cw + pw b j)) rfl (by kernel_rfl) (by kernel_rfl) (by kernel_rfl) (fun _ _ _ h => h) rfl (fun W' hW' => by go_simp) hS0 ?_
        refine two_next 0 11 (by kernel_rfl) rfl rfl rfl rfl (fun K1 hK1 => ?_) (fun K1 hK1 => ?_)
        · skip
          have HK1 := Lib.hid hK1
          clear hK1
          have e0 := (hv1.kept (g0) (by simp)).cell
          go_simp
          refine HK1.out _ _ (hq _ g0) ?_
          have g1 := g0
          clear e0
          refine one_next 11 (by kernel_rfl) rfl rfl fun K2 hK2 => ?_
          have HK2 := Lib.hid hK2
          clear hK2
          go_simp
          refine (pline_any (cu + pu a j) (cw + pw b j) _).mono ?_
          rintro e wl ⟨rfl, bell⟩
          have g2 : W1.grownBy wl none := grown_trans g1 (grown_of_below bell)
          refine HK2.out _ _ (hq _ g2) ?_
          have gl := g2
          refine one_next 12 (by kernel_rfl) rfl rfl fun K3 hK3 => ?_
          have HK3 := Lib.hid hK3
          clear hK3
          refine wp_slice1 (.tmp 107) (cu + pu a j) (cw + pw b j) rfl (by with_unfolding_all rfl) ?_
          have g3 : W1.grownBy (wl.alloc (.cells (lineL (cu + pu a j) (cw + pw b j)).toArray 40)) none := grown_alloc g2 _
          refine HK3.out _ _ (hq _ g3) ?_
          refine one_next 13 (by kernel_rfl) rfl rfl fun K4 hK4 => ?_
          have hrl := hrow1.kept gl (Classical.em _)
          refine wp_append_lies _ (.tmp 96) (.tmp 108) 30 rfl (w.heap.size + 4) 40 i0 (.agg #[.int .i64 0, .int .i64 0, .int .i64 0, .int .i64 0, .int .i64 0, .int .i64 0, .int .i64 0, .int .i64 0, .int .i64 0, .int .i64 0, .int .i64 0, .int .i64 0, .int .i64 0, .bool false, .int .i64 0, .bool false, .int .i64 0, .int .i64 0, .int .i64 0, .int .i64 0, .int .i64 0, .bool false]) 22 176 Try.underlying30 hi hz0 hz1 hz2 (by with_unfolding_all rfl) (by decide) v' (len + j) _ (by with_unfolding_all rfl) (hrl.alloc _) ⟨wl.heap.size, 0, none⟩ 1 1 (lineL (cu + pu a j) (cw + pw b j)) (by with_unfolding_all rfl) rfl (news_made _ _ _) (one_one _ _) (by omega) (by unfold maxLen; omega) (by omega) (by have := gl.size; simp; omega) (wl.heap.size + 1) (by simp) ?_
          intro g' c' w1 hown' hgrow hat hlt'
          have far : ∀ (p : Addr) u, p.block < W1.heap.size → some p.block ≠ v'.ownBlock → W1.cell? p = some u → w1.cell? p = some u := fun p u h1 h2 h3 => far_cell hgrow (by have := gl.size; omega) h2 (((below_of_grown0 gl).cell h1).trans h3)
          have q0 := far ⟨w.heap.size, 0, none⟩ _ (by show w.heap.size < _; omega) hne0 s0
          have q1 := far ⟨w.heap.size, 1, none⟩ _ (by show w.heap.size < _; omega) hne0 s1
          have q2 := far ⟨wr.heap.size, 0, none⟩ _ (by show wr.heap.size < _; omega) hne2 s2
          have q3 := far ⟨wr.heap.size, 1, none⟩ _ (by show wr.heap.size < _; omega) hne2 s3
          refine hK4 _ _ ⟨q0, q1, q2, q3⟩ ?_
          obtain ⟨a1, a2, a3, a4, a5⟩ := (hv1.kept gl (by simp)).appended (by decide) hrl (by have := gl.size; omega) (Nat.le_refl _) hown' hgrow
          refine one_next 14 (by kernel_rfl) rfl rfl fun K5 hK5 => ?_
          have HK5 := Lib.hid hK5
          clear hK5
          have e0 := a1.cell
          have e1 := a1.frozen
          go_simp
          refine HK5.out _ _ ⟨?_, ?_, ?_, ?_⟩ ?_
          · exact (setFar q0 (by show w.heap.size ≠ w.heap.size + 4; omega))
          · exact (setFar q1 (by show w.heap.size ≠ w.heap.size + 4; omega))
          · exact (setFar q2 (by show wr.heap.size ≠ w.heap.size + 4; omega))
          · exact (setFar q3 (by show wr.heap.size ≠ w.heap.size + 4; omega))
          refine wpAnyH_done (by kernel_rfl) ?_ _
          have fR := ((((hR1.kept gl (by simp)).alloc _).kept hgrow (by have := (hR1.kept gl (by simp)).not_row (by decide) hrl; simpa using this) : Boxed w1 _ _ _)).other (B' := w.heap.size + 4) (by omega) (.slice (some ⟨g', 0, none⟩) (len + j + 1) c')
          have fS := ((((hS1.kept gl (by simp)).alloc _).kept hgrow (by have := (hS1.kept gl (by simp)).not_row (by decide) hrl; simpa using this) : Boxed w1 _ _ _)).other (B' := w.heap.size + 4) (by omega) (.slice (some ⟨g', 0, none⟩) (len + j + 1) c')
          have fK := (hk1.trans (KeepsOthers.of_grownBy gl (by simp))).trans a4
          have fB := (hb1.trans ((below_of_grown0 gl).mono (by omega))).trans a5
          clear hgrow hown' a1 e0 e1 a4 a5 q0 q1 q2 q3 far
          go_simp
          gi_wp2
          go_roundw
          case rel => exact ⟨j + 1, by omega, by go_num, ⟨_, a2, by rw [fiveL_succ, List.flatten_append, ← List.append_assoc]; simpa [Nat.add_assoc] using a3⟩, fK, ⟨fR, fS⟩, fB⟩
          case measure => simp [intOf]; omega
        · skip
          have HK1 := Lib.hid hK1
          clear hK1
          go_simp
          refine (pline_any (cu + pu a j) (cw + pw b j) _).mono ?_
          rintro e wl ⟨rfl, bell⟩
          have g1 : W1.grownBy wl none := grown_trans g0 (grown_of_below bell)
          refine HK1.out _ _ (hq _ g1) ?_
          have gl := g1
          refine two_next 0 12 (by kernel_rfl) rfl rfl rfl rfl (fun K2 hK2 => ?_) (fun K2 hK2 => ?_)
          · skip
            have HK2 := Lib.hid hK2
            clear hK2
            have e0 := (hv1.kept (g1) (by simp)).cell
            go_simp
            refine HK2.out _ _ (hq _ g1) ?_
            have g2 := g1
            clear e0
            refine one_next 12 (by kernel_rfl) rfl rfl fun K3 hK3 => ?_
            have HK3 := Lib.hid hK3
            clear hK3
            refine wp_slice1 (.tmp 107) (cu + pu a j) (cw + pw b j) rfl (by with_unfolding_all rfl) ?_
            have g3 : W1.grownBy (wl.alloc (.cells (lineL (cu + pu a j) (cw + pw b j)).toArray 40)) none := grown_alloc g2 _
            refine HK3.out _ _ (hq _ g3) ?_
            refine one_next 13 (by kernel_rfl) rfl rfl fun K4 hK4 => ?_
            have hrl := hrow1.kept gl (Classical.em _)
            refine wp_append_lies _ (.tmp 96) (.tmp 108) 30 rfl (w.heap.size + 4) 40 i0 (.agg #[.int .i64 0, .int .i64 0, .int .i64 0, .int .i64 0, .int .i64 0, .int .i64 0, .int .i64 0, .int .i64 0, .int .i64 0, .int .i64 0, .int .i64 0, .int .i64 0, .int .i64 0, .bool false, .int .i64 0, .bool false, .int .i64 0, .int .i64 0, .int .i64 0, .int .i64 0, .int .i64 0, .bool false]) 22 176 Try.underlying30 hi hz0 hz1 hz2 (by with_unfolding_all rfl) (by decide) v' (len + j) _ (by with_unfolding_all rfl) (hrl.alloc _) ⟨wl.heap.size, 0, none⟩ 1 1 (lineL (cu + pu a j) (cw + pw b j)) (by with_unfolding_all rfl) rfl (news_made _ _ _) (one_one _ _) (by omega) (by unfold maxLen; omega) (by omega) (by have := gl.size; simp; omega) (wl.heap.size + 1) (by simp) ?_
            intro g' c' w1 hown' hgrow hat hlt'
            have far : ∀ (p : Addr) u, p.block < W1.heap.size → some p.block ≠ v'.ownBlock → W1.cell? p = some u → w1.cell? p = some u := fun p u h1 h2 h3 => far_cell hgrow (by have := gl.size; omega) h2 (((below_of_grown0 gl).cell h1).trans h3)
            have q0 := far ⟨w.heap.size, 0, none⟩ _ (by show w.heap.size < _; omega) hne0 s0
            have q1 := far ⟨w.heap.size, 1, none⟩ _ (by show w.heap.size < _; omega) hne0 s1
            have q2 := far ⟨wr.heap.size, 0, none⟩ _ (by show wr.heap.size < _; omega) hne2 s2
            have q3 := far ⟨wr.heap.size, 1, none⟩ _ (by show wr.heap.size < _; omega) hne2 s3
            refine hK4 _ _ ⟨q0, q1, q2, q3⟩ ?_
            obtain ⟨a1, a2, a3, a4, a5⟩ := (hv1.kept gl (by simp)).appended (by decide) hrl (by have := gl.size; omega) (Nat.le_refl _) hown' hgrow
            refine one_next 14 (by kernel_rfl) rfl rfl fun K5 hK5 => ?_
            have HK5 := Lib.hid hK5
            clear hK5
            have e0 := a1.cell
            have e1 := a1.frozen
            go_simp
            refine HK5.out _ _ ⟨?_, ?_, ?_, ?_⟩ ?_
            · exact (setFar q0 (by show w.heap.size ≠ w.heap.size + 4; omega))
            · exact (setFar q1 (by show w.heap.size ≠ w.heap.size + 4; omega))
            · exact (setFar q2 (by show wr.heap.size ≠ w.heap.size + 4; omega))
            · exact (setFar q3 (by show wr.heap.size ≠ w.heap.size + 4; omega))
            refine wpAnyH_done (by kernel_rfl) ?_ _
            have fR := ((((hR1.kept gl (by simp)).alloc _).kept hgrow (by have := (hR1.kept gl (by simp)).not_row (by decide) hrl; simpa using this) : Boxed w1 _ _ _)).other (B' := w.heap.size + 4) (by omega) (.slice (some ⟨g', 0, none⟩) (len + j + 1) c')
            have fS := ((((hS1.kept gl (by simp)).alloc _).kept hgrow (by have := (hS1.kept gl (by simp)).not_row (by decide) hrl; simpa using this) : Boxed w1 _ _ _)).other (B' := w.heap.size + 4) (by omega) (.slice (some ⟨g', 0, none⟩) (len + j + 1) c')
            have fK := (hk1.trans (KeepsOthers.of_grownBy gl (by simp))).trans a4
            have fB := (hb1.trans ((below_of_grown0 gl).mono (by omega))).trans a5
            clear hgrow hown' a1 e0 e1 a4 a5 q0 q1 q2 q3 far
            go_simp
            gi_wp2
            go_roundw
            case rel => exact ⟨j + 1, by omega, by go_num, ⟨_, a2, by rw [fiveL_succ, List.flatten_append, ← List.append_assoc]; simpa [Nat.add_assoc] using a3⟩, fK, ⟨fR, fS⟩, fB⟩
            case measure => simp [intOf]; omega
          · skip
            have HK2 := Lib.hid hK2
            clear hK2
            refine wp_slice1 (.tmp 107) (cu + pu a j) (cw + pw b j) rfl (by with_unfolding_all rfl) ?_
            have g2 : W1.grownBy (wl.alloc (.cells (lineL (cu + pu a j) (cw + pw b j)).toArray 40)) none := grown_alloc g1 _
            refine HK2.out _ _ (hq _ g2) ?_
            refine one_next 0 (by kernel_rfl) rfl rfl fun K3 hK3 => ?_
            have HK3 := Lib.hid hK3
            clear hK3
            have e0 := (hv1.kept (g2) (by simp)).cell
            go_simp
            refine HK3.out _ _ (hq _ g2) ?_
            have g3 := g2
            clear e0
            refine one_next 13 (by kernel_rfl) rfl rfl fun K4 hK4 => ?_
            have hrl := hrow1.kept gl (Classical.em _)
            refine wp_append_lies _ (.tmp 96) (.tmp 108) 30 rfl (w.heap.size + 4) 40 i0 (.agg #[.int .i64 0, .int .i64 0, .int .i64 0, .int .i64 0, .int .i64 0, .int .i64 0, .int .i64 0, .int .i64 0, .int .i64 0, .int .i64 0, .int .i64 0, .int .i64 0, .int .i64 0, .bool false, .int .i64 0, .bool false, .int .i64 0, .int .i64 0, .int .i64 0, .int .i64 0, .int .i64 0, .bool false]) 22 176 Try.underlying30 hi hz0 hz1 hz2 (by with_unfolding_all rfl) (by decide) v' (len + j) _ (by with_unfolding_all rfl) (hrl.alloc _) ⟨wl.heap.size, 0, none⟩ 1 1 (lineL (cu + pu a j) (cw + pw b j)) (by with_unfolding_all rfl) rfl (news_made _ _ _) (one_one _ _) (by omega) (by unfold maxLen; omega) (by omega) (by have := gl.size; simp; omega) (wl.heap.size + 1) (by simp) ?_
            intro g' c' w1 hown' hgrow hat hlt'
            have far : ∀ (p : Addr) u, p.block < W1.heap.size → some p.block ≠ v'.ownBlock → W1.cell? p = some u → w1.cell? p = some u := fun p u h1 h2 h3 => far_cell hgrow (by have := gl.size; omega) h2 (((below_of_grown0 gl).cell h1).trans h3)
            have q0 := far ⟨w.heap.size, 0, none⟩ _ (by show w.heap.size < _; omega) hne0 s0
            have q1 := far ⟨w.heap.size, 1, none⟩ _ (by show w.heap.size < _; omega) hne0 s1
            have q2 := far ⟨wr.heap.size, 0, none⟩ _ (by show wr.heap.size < _; omega) hne2 s2
            have q3 := far ⟨wr.heap.size, 1, none⟩ _ (by show wr.heap.size < _; omega) hne2 s3
            refine hK4 _ _ ⟨q0, q1, q2, q3⟩ ?_
            obtain ⟨a1, a2, a3, a4, a5⟩ := (hv1.kept gl (by simp)).appended (by decide) hrl (by have := gl.size; omega) (Nat.le_refl _) hown' hgrow
            refine one_next 14 (by kernel_rfl) rfl rfl fun K5 hK5 => ?_
            have HK5 := Lib.hid hK5
            clear hK5
            have e0 := a1.cell
            have e1 := a1.frozen
            go_simp
            refine HK5.out _ _ ⟨?_, ?_, ?_, ?_⟩ ?_
            · exact (setFar q0 (by show w.heap.size ≠ w.heap.size + 4; omega))
            · exact (setFar q1 (by show w.heap.size ≠ w.heap.size + 4; omega))
            · exact (setFar q2 (by show wr.heap.size ≠ w.heap.size + 4; omega))
            · exact (setFar q3 (by show wr.heap.size ≠ w.heap.size + 4; omega))
            refine wpAnyH_done (by kernel_rfl) ?_ _
            have fR := ((((hR1.kept gl (by simp)).alloc _).kept hgrow (by have := (hR1.kept gl (by simp)).not_row (by decide) hrl; simpa using this) : Boxed w1 _ _ _)).other (B' := w.heap.size + 4) (by omega) (.slice (some ⟨g', 0, none⟩) (len + j + 1) c')
            have fS := ((((hS1.kept gl (by simp)).alloc _).kept hgrow (by have := (hS1.kept gl (by simp)).not_row (by decide) hrl; simpa using this) : Boxed w1 _ _ _)).other (B' := w.heap.size + 4) (by omega) (.slice (some ⟨g', 0, none⟩) (len + j + 1) c')
            have fK := (hk1.trans (KeepsOthers.of_grownBy gl (by simp))).trans a4
            have fB := (hb1.trans ((below_of_grown0 gl).mono (by omega))).trans a5
            clear hgrow hown' a1 e0 e1 a4 a5 q0 q1 q2 q3 far
            go_simp
            gi_wp2
            go_roundw
            case rel => exact ⟨j + 1, by omega, by go_num, ⟨_, a2, by rw [fiveL_succ, List.flatten_append, ← List.append_assoc]; simpa [Nat.add_assoc] using a3⟩, fK, ⟨fR, fS⟩, fB⟩
            case measure => simp [intOf]; omega
      · obtain rfl : j = 5 := by omega
        gi_wp2
        refine ⟨hk.from _, ⟨hR'.cell.trans hR.cell.symm, hS'.cell.trans hSt.cell.symm⟩, ⟨_, hv', ?_, trivial⟩, ⟨hR', hS'⟩, hB.trans hb'⟩
        rw [EE.out.1, EE.out.2]
        exact hrow'

  case done =>
    rintro D ys W hD hS ⟨⟨v, hv, hrow, _⟩, _, hB⟩ hK
    subst ha'
    have c0 := (hB.cell (p := ⟨w.heap.size, 0, none⟩) (by simp)).trans hc0
    have c1 := (hB.cell (p := ⟨w.heap.size, 1, none⟩) (by simp)).trans hc1
    rw [hS] at hrow
    have hszW : w.heap.size + 4 ≤ W.heap.size := by have := hB.size; omega
    have hlen := recL_len cu cw wd dp size (ringsL size step)
    rw [ringsL_len] at hlen
    have hl1 : (recL cu cw wd dp size (ringsL size step)).length ≤ 5000 := by omega
    have hv0 := hv.cell
    have HB4 := Lib.hid hb4
    clear hlen hB0 bO hc0 hc1 bR bS hcw hcd hcs h4 hb4 z0 d1 hsz
    gi_wp2
    refine wpIn_wide.2 ?_
    have hlw : w.heap.size + 4 < W.heap.size := hv.lt
    obtain ⟨len, elen⟩ : ∃ len, (recL cu cw wd dp size (ringsL size step)).length = len := ⟨_, rfl⟩
    have ELEN := Lib.hid elen
    rw [elen] at hrow hl1
    clear elen
    have hne1 : some (w.heap.size + 4) ≠ v.ownBlock := hv.not_row (by decide) hrow
    have hne0 : some w.heap.size ≠ v.ownBlock := by intro e; have := (hrow.lt _ e.symm).1; omega
    have HV := Lib.hid hv
    clear hv
    go_region_held3 (fun w' => w'.cell? ⟨w.heap.size + 4, 0, none⟩ = some v ∧ w'.cell? ⟨w.heap.size, 0, none⟩ = some (.int .i64 cu) ∧ w'.cell? ⟨w.heap.size, 1, none⟩ = some (.int .i64 cw) ∧ w.heap.size + 4 < w'.heap.size) (first | exact ⟨by assumption, by assumption, by assumption, by assumption⟩ | (simp [go_sem, *]; done) | (simp [go_sem, *]; omega))
      (first
        | ((go_at_call 27; refine (pline_any cu cw _).mono ?_; rintro e wl ⟨rfl, bell⟩; have gl : W.grownBy wl none := grown_trans (grown_drew (grown_refl W none)) (grown_of_below bell); have q0 := ((below_of_grown0 gl).cell (p := ⟨w.heap.size + 4, 0, none⟩) hlw).trans hv0; have q1 := ((below_of_grown0 gl).cell (p := ⟨w.heap.size, 0, none⟩) (by show w.heap.size < _; omega)).trans c0; have q2 := ((below_of_grown0 gl).cell (p := ⟨w.heap.size, 1, none⟩) (by show w.heap.size < _; omega)).trans c1; have q3 : w.heap.size + 4 < wl.heap.size := (by have := gl.size; omega); have q4 : w.heap.size < wl.heap.size := (by omega); have q5 : w.heap.size ≠ wl.heap.size := (by omega); have q6 : wl.heap.size ≠ w.heap.size := (by omega); dsimp only [lineL]; have hrl := hrow.kept gl (Classical.em _)))
        | ((((with_reducible refine append_guard ?_); with_reducible refine step_append_lit (.tmp 111) (.tmp 117) 30 (w.heap.size + 4) 40 i0 (.agg #[.int .i64 0, .int .i64 0, .int .i64 0, .int .i64 0, .int .i64 0, .int .i64 0, .int .i64 0, .int .i64 0, .int .i64 0, .int .i64 0, .int .i64 0, .int .i64 0, .int .i64 0, .bool false, .int .i64 0, .bool false, .int .i64 0, .int .i64 0, .int .i64 0, .int .i64 0, .int .i64 0, .bool false]) 22 176 Try.underlying30 hi hz0 hz1 hz2 (by with_unfolding_all rfl) (by with_unfolding_all decide) v len _ (by with_unfolding_all rfl) (hrl.alloc _) ⟨wl.heap.size, 0, none⟩ 1 1 (lineL cu cw) (by with_unfolding_all rfl) (by with_unfolding_all rfl) (by with_unfolding_all exact news_made _ _ _) (one_one _ _) (by omega) (by unfold maxLen; omega) (by omega) (by simp; omega) (wl.heap.size + 1) (by simp) ?_); intro g' c' w1 hown' hgrow hat hlt'; have r0 := far_cell (p := ⟨w.heap.size + 4, 0, none⟩) hgrow q3 hne1 q0; have r1 := far_cell (p := ⟨w.heap.size, 0, none⟩) hgrow q4 hne0 q1; have r2 := far_cell (p := ⟨w.heap.size, 1, none⟩) hgrow q4 hne0 q2; have r3 : w.heap.size + 4 < w1.heap.size := (by have := hgrow.size; simp at this; omega))))
    gi_wp2
    have hK1 : w1.heap[D]? = some (.deferred (some [])) := by
      have hDl : D < W.heap.size := (Array.getElem?_eq_some_iff.1 hK).1
      have h1 : wl.heap[D]? = some (.deferred (some [])) := (gl.block D hDl (by simp)).trans hK
      have h2 := (Below.heap_alloc wl (.cells (lineL cu cw).toArray 40) D (by have := gl.size; omega)).trans h1
      refine (hgrow.block D (by have := gl.size; simp; omega) ?_).trans h2
      intro e'
      rcases (hrl.alloc (.cells (lineL cu cw).toArray 40)).2 with ⟨rfl, _⟩ | ⟨g, cap, cur, rfl, _, hh, _⟩
      · simp [Value.ownBlock] at e'
      · obtain rfl : D = g := by simpa [Value.ownBlock] using e'
        rw [h2] at hh
        cases hh
    have hDw : w.heap.size ≤ D := by simp at hD; omega
    have B1 : Below w.heap.size w W := HB4.out.trans (hB.mono (by omega))
    have B2 : Below w.heap.size w wl := B1.trans ((below_of_grown0 gl).mono (by omega))
    have B3 : Below w.heap.size w w1 := (B2.alloc (by omega) (.cells (lineL cu cw).toArray 40)).grown hgrow (by have := B2.size; simp; omega) (fun k e => by have := (hrl.lt k e).1; omega)
    have e1 : L.length = len + 1 := by rw [← EL.out, List.length_append, ELEN.out]; rfl
    have e2 : L.flatten = (recL cu cw wd dp size (ringsL size step)).flatten ++ lineL cu cw := by rw [← EL.out, List.flatten_append]; simp
    refine ⟨by simp, .inl ⟨_, _, rfl, run_takeDeferred hK1, ?_⟩⟩
    refine ⟨_, results_tmp2 rfl _ _ _, ?_⟩
    refine ⟨some ⟨g', 0, none⟩, c', ?_, ?_, ?_⟩
    · rw [e1]
      rfl
    · rw [e1, e2]
      exact own_base (ownsRow_putObj hown' _ hK1 rfl) (by omega)
    · exact B3.grown (grownBy_putObj' w1 D _) B3.size (fun k e => by cases e; exact hDw)
  case stop =>
    rintro D c pre W _ _ h _
    exact h.elim
end Go.Proofs.Ytnbfhdapdlpgiaa
