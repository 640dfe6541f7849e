/-
  cnclaw07.Act.args: the arguments of an act. Any act whose arguments lie in memory.
-/
import Derived.Test.YtdbhkpkndfhcoaaDoorFew07
namespace Go.Proofs.YtdbhkpkndfhcoaaDoor
open Go Go.RowKit
set_option linter.unusedVariables false

def letA (i : Nat) : Int := [65, 73, 88, 90].getD i 0
def betA (u : Int) : Int := -1000000000000000 + u % (1000000000000000 - -1000000000000000 + 1)
/-- The first i arguments, made near. -/
def nearA (A : List (Int × Int)) (i : Nat) : List (Int × Int) := (List.range i).map fun k => (letA k, betA (A.getD k (0, 0)).2)
def argsOf (d : ActD) : List (Int × Int) := if d.near then nearA d.args (min d.args.length 4) else d.args
theorem nearA_len (A : List (Int × Int)) (i : Nat) : (nearA A i).length = i := by simp [nearA]
theorem nearA_succ (A : List (Int × Int)) (i : Nat) {c u : Int} (h : A[i]? = some (c, u)) : nearA A (i + 1) = nearA A i ++ [(letA i, betA u)] := by
  unfold nearA
  rw [List.range_succ, List.map_append]
  simp [List.getD, h]
theorem argsOf_len (d : ActD) (h : d.args.length ≤ 9223372036854775807) : (argsOf d).length ≤ 9223372036854775807 := by
  unfold argsOf
  split
  · rw [nearA_len]; omega
  · exact h
def argCells (l : List (Int × Int)) : List Value := l.flatMap fun p => [.int .i64 p.1, .int .i64 p.2]
theorem argCells_len (l : List (Int × Int)) : (argCells l).length = l.length * 2 := by
  induction l with
  | nil => rfl
  | cons p l ih => simp [argCells] at ih ⊢; omega
theorem argCells_snoc (l : List (Int × Int)) (c v : Int) : argCells (l ++ [(c, v)]) = argCells l ++ [.int .i64 c, .int .i64 v] := by simp [argCells]
theorem argCells_at : ∀ (l : List (Int × Int)) (i : Nat) (c v : Int), l[i]? = some (c, v) → (argCells l)[i * 2]? = some (.int .i64 c) ∧ (argCells l)[i * 2 + 1]? = some (.int .i64 v)
  | [], i, c, v, h => by simp at h
  | p :: l, 0, c, v, h => by simp at h; subst h; exact ⟨rfl, rfl⟩
  | p :: l, i + 1, c, v, h => by
    have := argCells_at l i c v (by simpa using h)
    rw [show (i + 1) * 2 = i * 2 + 2 by omega]
    exact this
theorem args_own {w : World} {base n : Nat} {v : Value} {l : List (Int × Int)} (h : w.ownsRow base 36 2 v n (argCells l)) (hn : n = l.length) : ∃ a c, v = .slice a n c ∧ ArgsAt w a l := by
  rcases h.2 with ⟨rfl, rfl⟩ | ⟨g, cap, cur, rfl, hb, _⟩
  · refine ⟨_, _, rfl, fun i c u hi => ?_⟩
    have := (List.getElem?_eq_some_iff.1 hi).1
    omega
  · refine ⟨_, _, rfl, fun i c u hi => ?_⟩
    have hlt := (List.getElem?_eq_some_iff.1 hi).1
    obtain ⟨h1, h2⟩ := argCells_at l i c u hi
    refine ⟨g, 0, rfl, (h.lt g rfl).2, ?_, ?_⟩
    · rw [Nat.zero_add, h.cellAt _ (by omega)]; exact h1
    · rw [Nat.zero_add, h.cellAt _ (by omega)]; exact h2
theorem infoValue : (Tryd.prog.info? 36).map (fun i => (i.zero, i.size, i.bytes)) = some (some (.agg #[.int .i64 0, .int .i64 0]), 2, 16) := by kernel_rfl
theorem val_fill (c v : Int) : Instr.fill (fun i => some (i * 2, 2)) ((Array.range (1 * 2)).map ((Value.agg #[.int .i64 0, .int .i64 0]).cells[· % (Value.agg #[.int .i64 0, .int .i64 0]).cells.size]!)) [(0, .agg #[.int .i64 c, .int .i64 v])] = some #[.int .i64 c, .int .i64 v] := by with_unfolding_all kernel_rfl
theorem value1 (c v : Int) (W : World) : (Instr.buildSlice 37 1 #[(0, .agg #[.int .i64 c, .int .i64 v])]).run Tryd.prog W = .ok (.slice (some ⟨W.heap.size, 0, none⟩) 1 1) (W.alloc (.cells #[.int .i64 c, .int .i64 v] 36)) := by
  obtain ⟨i0, hi, hz0, hz1, hz2⟩ := info_parts infoValue
  exact run_buildSlice W _ 36 1 _ #[.int .i64 c, .int .i64 v] i0 _ Tryd.underlying37 hi hz0 (by rw [hz1]; decide) (by rw [hz1]; decide) (by rw [hz1]; exact val_fill c v)
theorem wp_value1 {o : Oper} {a : Act} {w : World} {K : Act → World → Prop} {Q : Exit → Act → World → Prop} (x : Operand) (c v : Int) (ho : o.op = .buildSlice 37 1 #[(0, x)]) (hx : a.eval x = .agg #[.int .i64 c, .int .i64 v])
    (h : K (a.put o.dst (.slice (some ⟨w.heap.size, 0, none⟩) 1 1)) (w.alloc (.cells #[.int .i64 c, .int .i64 v] 36))) : o.wp Tryd.prog a w K Q := by
  unfold Oper.wp execOp
  simp only [ho, List.map_toArray, List.map_cons, List.map_nil, hx, Sem.run_bind, value1, Result.andThen_ok, Sem.run_pure]
  exact h
theorem val_made (W : World) (c v : Int) : ∀ j u, [Value.int .i64 c, .int .i64 v][j]? = some u → (W.alloc (.cells #[.int .i64 c, .int .i64 v] 36)).cell? ((⟨W.heap.size, 0, none⟩ : Addr).add j) = some u := by
  intro j u hu
  rw [Addr.add_mid, Nat.zero_add, (Blk.new W 36 #[.int .i64 c, .int .i64 v]).cell]
  simpa using hu
theorem letter_run : ∀ (i : Nat), i < 4 → ∀ W : World, (Instr.index 9 (.string ⟨#[65, 73, 88, 90]⟩) (.int .i64 i)).run Tryd.prog W = .ok (.int .u8 (letA i)) W
  | 0, _, W => by show (Instr.index 9 (.string ⟨#[65, 73, 88, 90]⟩) (.int .i64 0)).run Tryd.prog W = .ok (.int .u8 65) W; kernel_rfl
  | 1, _, W => by show (Instr.index 9 (.string ⟨#[65, 73, 88, 90]⟩) (.int .i64 1)).run Tryd.prog W = .ok (.int .u8 73) W; kernel_rfl
  | 2, _, W => by show (Instr.index 9 (.string ⟨#[65, 73, 88, 90]⟩) (.int .i64 2)).run Tryd.prog W = .ok (.int .u8 88) W; kernel_rfl
  | 3, _, W => by show (Instr.index 9 (.string ⟨#[65, 73, 88, 90]⟩) (.int .i64 3)).run Tryd.prog W = .ok (.int .u8 90) W; kernel_rfl
  | n + 4, h, _ => by omega
theorem letA_bd (i : Nat) (h : i < 4) : 65 ≤ letA i ∧ letA i ≤ 90 := by
  match i, h with
  | 0, _ => decide
  | 1, _ => decide
  | 2, _ => decide
  | 3, _ => decide

/-- What args returns. -/
def ArgsPost (l : List (Int × Int)) (w : World) (e : Ending) (w' : World) : Prop := ∃ a cp, e = .returned (.slice a l.length cp) ∧ ArgsAt w' a l ∧ Below w.heap.size w w'
theorem args_fin {l : List (Int × Int)} {base n : Nat} {v : Value} {w w' : World} (hn : n = l.length) (h : w'.ownsRow base 36 2 v n (argCells l)) (hb : Below w.heap.size w w') : ArgsPost l w (.returned v) w' := by
  obtain ⟨a, c, rfl, hA⟩ := args_own h hn
  subst hn
  exact ⟨a, c, rfl, hA, hb⟩
set_option maxRecDepth 100000 in
set_option maxHeartbeats 1000000 in
theorem actargs_any (d : ActD) (w : World) (hA : ArgsAt w d.addr d.args) (hn : d.args.length ≤ 9223372036854775807) :
    Calls Tryd.prog 35 #[.agg d.cells.toArray] w (ArgsPost (argsOf d) w) := by
  obtain ⟨W, N, V, near, addr, A, cap⟩ := d
  have bel0 := (Below.refl w.heap.size w).alloc (Nat.le_refl _) (.cells #[.int .i64 W, .int .i64 N, .int .i64 V, .bool near, .slice addr A.length cap] 40)
  have hb := Blk.new w 40 #[.int .i64 W, .int .i64 N, .int .i64 V, .bool near, .slice addr A.length cap]
  simp only [ActD.cells]
  cases near
  · have c3 := hb.cell' 3 rfl
    have c4 := hb.cell' 4 rfl
    go_enter Tryd.func35, Tryd.ntmps35
    go_wp2_with fail
    go_ret
    exact ⟨addr, cap, rfl, hA.below bel0, bel0⟩
  · have c3 := hb.cell' 3 rfl
    have eN : argsOf ⟨W, N, V, true, addr, A, cap⟩ = nearA A (min A.length 4) := rfl
    obtain ⟨i0, hi0, hz0, hz1, hz2⟩ := info_parts infoValue
    rw [eN]
    have EN := Lib.hid eN
    clear eN
    simp only [] at hA hn
    go_enter Tryd.func35, Tryd.ntmps35
    go_wp2_with fail
    go_loopw [3, 4] (fun s3 s4 wr => ∃ i : Nat, i ≤ A.length ∧ i ≤ 4 ∧ s4 = .int .i64 i ∧ wr.ownsRow (w.heap.size + 1) 36 2 s3 i (argCells (nearA A i)) ∧ Blk wr w.heap.size 40 #[.int .i64 W, .int .i64 N, .int .i64 V, .bool true, .slice addr A.length cap] ∧ Below w.heap.size w wr)
      (fun _ s4 _ => 4 - (intOf s4).toNat)
    case atStart => exact ⟨0, by omega, by omega, rfl, World.ownsRow_nil _ _ _ _, hb, bel0⟩
    case round =>
      obtain ⟨i, hiA, hi4, rfl, hown, hbk, bel⟩ := hrel
      have c4 := hbk.cell' 4 rfl
      have i0' : (0 : Int) ≤ (i : Int) := by omega
      by_cases h1 : i < A.length
      · by_cases h2 : i < 4
        · obtain ⟨⟨c, u⟩, hcu⟩ : ∃ cv, A[i]? = some cv := ⟨_, List.getElem?_eq_getElem h1⟩
          obtain ⟨b, o, rfl, hbl, _, k2⟩ := hA i c u hcu
          have q1 := (bel.cell (p := ⟨b, o + i * 2 + 1, none⟩) hbl).trans k2
          have d1 : decide (i < A.length) = true := by simp; omega
          have d2 : decide (i < 4) = true := by simp; omega
          have LR := Lib.hid (letter_run i h2)
          have hlb := letA_bd i h2
          have ES := Lib.hid (nearA_succ A i hcu)
          have KB := Lib.hid (fun W => between_any u (-1000000000000000) 1000000000000000 W (by omega) (by omega) (by omega))
          have eB : -1000000000000000 + u % (1000000000000000 - -1000000000000000 + 1) = betA u := rfl
          rw [eB] at KB
          have KB := KB
          generalize betA u = bu at *
          generalize letA i = lc at *
          clear eB
          have i1 : (i : Int) < (A.length : Int) := by omega
          go_wp2_with fail
          have hsz := bel.size
          have hwl : IntKind.i64.wrap lc = lc := by rw [IntKind.wrap_i64]; omega
          have hsb : w.heap.size < wr.heap.size := by have := hbk.lt; omega
          refine wp_region_held_drew (S := fun w' => w'.cell? ⟨w.heap.size, 4, none⟩ = some (.slice (some ⟨b, o, none⟩) A.length cap) ∧ w'.cell? ⟨b, o + i * 2 + 1, none⟩ = some (.int .i64 u)) (by kernel_rfl) ⟨c4, q1⟩ fun hS0 => ?_
          refine take_first 0 (v := u3) rfl (by kernel_rfl) (by kernel_rfl) (by kernel_rfl) (fun _ _ _ h => h) rfl (fun W' hW' => by go_simp) hS0 ?_
          refine take_first 1 (v := .int .i64 i) rfl (by kernel_rfl) (by kernel_rfl) (by kernel_rfl) (fun _ _ _ h => h) rfl (fun W' hW' => by go_simp) hS0 ?_
          refine take_first 2 (v := .int .u8 lc) rfl (by kernel_rfl) (by kernel_rfl) (by kernel_rfl) (fun _ _ _ h => h) rfl (fun W' hW' => by have e0 := LR.out W'; go_simp) hS0 ?_
          refine take_first 3 (v := .int .i64 lc) rfl (by kernel_rfl) (by kernel_rfl) (by kernel_rfl) (fun _ _ _ h => h) rfl (fun W' hW' => by go_simp) hS0 ?_
          refine take_first 4 (v := .pointer (some ⟨w.heap.size, 4, none⟩)) rfl (by kernel_rfl) (by kernel_rfl) (by kernel_rfl) (fun _ _ _ h => h) rfl (fun W' hW' => by go_simp) hS0 ?_
          refine take_first 5 (v := .slice (some ⟨b, o, none⟩) A.length cap) rfl (by kernel_rfl) (by kernel_rfl) (by kernel_rfl) (fun _ _ _ h => h) rfl (fun W' hW' => by obtain ⟨q4, q1⟩ := hW'; go_simp) hS0 ?_
          refine take_first 6 (v := .int .i64 i) rfl (by kernel_rfl) (by kernel_rfl) (by kernel_rfl) (fun _ _ _ h => h) rfl (fun W' hW' => by go_simp) hS0 ?_
          refine take_first 7 (v := .pointer (some ⟨b, o + i * 2, none⟩)) rfl (by kernel_rfl) (by kernel_rfl) (by kernel_rfl) (fun _ _ _ h => h) rfl (fun W' hW' => by go_simp) hS0 ?_
          refine take_first 8 (v := .pointer (some ⟨b, o + i * 2 + 1, none⟩)) rfl (by kernel_rfl) (by kernel_rfl) (by kernel_rfl) (fun _ _ _ h => h) rfl (fun W' hW' => by go_simp) hS0 ?_
          refine take_first 9 (v := .int .i64 u) rfl (by kernel_rfl) (by kernel_rfl) (by kernel_rfl) (fun _ _ _ h => h) rfl (fun W' hW' => by obtain ⟨q4, q1⟩ := hW'; go_simp) hS0 ?_
          refine one_next 10 (by kernel_rfl) rfl rfl fun K10 hK10 => ?_
          have HK10 := Lib.hid hK10
          clear hK10
          go_simp
          go_at_call 17
          refine (KB.out _).mono ?_
          rintro e w' ⟨rfl, rfl⟩
          refine HK10.out _ _ hS0 ?_
          refine one_next 11 (by kernel_rfl) rfl rfl fun K11 hK11 => ?_
          have HK11 := Lib.hid hK11
          clear hK11
          go_simp
          refine HK11.out _ _ hS0 ?_
          refine one_next 12 (by kernel_rfl) rfl rfl fun K12 hK12 => ?_
          refine wp_value1 (.tmp 32) lc bu rfl (by with_unfolding_all rfl) ?_
          have hS1 : (wr.drew.alloc (.cells #[.int .i64 lc, .int .i64 bu] 36)).cell? ⟨w.heap.size, 4, none⟩ = some (.slice (some ⟨b, o, none⟩) A.length cap) ∧ (wr.drew.alloc (.cells #[.int .i64 lc, .int .i64 bu] 36)).cell? ⟨b, o + i * 2 + 1, none⟩ = some (.int .i64 u) :=
            ⟨((hbk.drew.alloc _).cell' 4 rfl), (((Below.refl wr.heap.size wr).alloc (Nat.le_refl _) (.cells #[.int .i64 lc, .int .i64 bu] 36)).cell (p := ⟨b, o + i * 2 + 1, none⟩) (by show b < _; omega)).trans q1⟩
          refine hK12 _ _ hS1 ?_
          refine one_next 13 (by kernel_rfl) rfl rfl fun K13 hK13 => ?_
          refine wp_append_lies _ (.tmp 21) (.tmp 33) 37 rfl (w.heap.size + 1) 36 i0 (.agg #[.int .i64 0, .int .i64 0]) 2 16 Tryd.underlying37 hi0 hz0 hz1 hz2 (by kernel_rfl) (by decide) u3 i _ (by with_unfolding_all rfl) (hown.drew.alloc _) ⟨wr.heap.size, 0, none⟩ 1 1 [.int .i64 lc, .int .i64 bu] (by with_unfolding_all rfl) rfl (val_made _ _ _) (by intro x hx; simp at hx; rcases hx with rfl | rfl <;> rfl) (by omega) (by unfold maxLen; omega) (by omega) (by simp; omega) (wr.heap.size + 1) (by simp) ?_
          intro g' c' w1 hown' hgrow hat hlt'
          have hrow : some w.heap.size ≠ u3.ownBlock := fun e => by have := (hown.lt _ e.symm).1; omega
          have kb1 := (hbk.drew.alloc (.cells #[.int .i64 lc, .int .i64 bu] 36)).grown hgrow hrow
          have bel1 : Below w.heap.size w w1 := ((below_drewN bel 1).alloc hsz (.cells #[.int .i64 lc, .int .i64 bu] 36)).trans ((below_of_grown hgrow (by simp; omega) (fun k e => by have := (hown.lt k e).1; omega)))
          rw [← argCells_snoc, ← ES.out] at hown'
          have q1' : w1.cell? ⟨b, o + i * 2 + 1, none⟩ = some (.int .i64 u) := (bel1.cell (p := ⟨b, o + i * 2 + 1, none⟩) hbl).trans k2
          refine hK13 _ _ ⟨kb1.cell' 4 rfl, q1'⟩ ?_
          refine one_next 14 (by kernel_rfl) rfl rfl fun K14 hK14 => ?_
          have HK14 := Lib.hid hK14
          clear hK14
          go_simp
          refine HK14.out _ _ ⟨kb1.cell' 4 rfl, q1'⟩ ?_
          refine wpAnyH_done (by kernel_rfl) ?_ _
          clear hgrow hat hS0 hS1 q1 q1' HK10 HK11 HK14 hK12 hK13 KB LR c4
          go_simp
          go_wp2_with fail
          go_roundw
          case rel => exact ⟨i + 1, by omega, by omega, by go_num, hown', kb1, bel1⟩
          case measure => simp [intOf]; omega
        · have d1 : decide (i < A.length) = true := by simp; omega
          have d2 : decide (i < 4) = false := by simp; omega
          have E := Lib.hid (show min A.length 4 = i by omega)
          go_wp2_with fail
          go_ret
          rw [E.out]
          exact args_fin (nearA_len _ _).symm hown bel
      · have d1 : decide (i < A.length) = false := by simp; omega
        have E := Lib.hid (show min A.length 4 = i by omega)
        go_wp2_with fail
        go_ret
        rw [E.out]
        exact args_fin (nearA_len _ _).symm hown bel
end Go.Proofs.YtdbhkpkndfhcoaaDoor
