/-
  event.Parse: the list of events of a text, or why it is none. Any text.
-/
import Derived.Test.YtkafmpgihhnhdaaDoorLine33
import Derived.Test.YtkafmpgihhnhdaaDoorEvs33
namespace Go.Proofs.YtkafmpgihhnhdaaDoor
open Go Go.RowKit
set_option linter.unusedVariables false

theorem infoEv : (Tryd.prog.info? 28).map (fun i => (i.zero, i.size, i.bytes)) = some (some (.agg #[.int .i64 0, .int .i64 0, .int .i64 0]), 3, 24) := by kernel_rfl
theorem ev_one (t : Ev) : ∀ u ∈ evC t, u.oneCell' = true := by
  intro u hu
  unfold evC at hu
  simp only [List.mem_cons, List.not_mem_nil, or_false] at hu
  rcases hu with rfl | rfl | rfl <;> rfl
theorem ev_fill (x y z : Int) : Instr.fill (fun i => some (i * 3, 3)) ((Array.range (1 * 3)).map ((Value.agg #[.int .i64 0, .int .i64 0, .int .i64 0]).cells[· % (Value.agg #[.int .i64 0, .int .i64 0, .int .i64 0]).cells.size]!)) [(0, .agg #[.int .i64 x, .int .i64 y, .int .i64 z])] = some #[.int .i64 x, .int .i64 y, .int .i64 z] := by with_unfolding_all rfl
theorem go_ev1 {ops : Array Oper} {rest : List Oper} {a : Act} {w : World} {Q : Exit → Act → World → Prop} {dst : Option Tmp} {ty0 : TypeId} {pos : String} {after : Array Edge} (x : Operand) (k n p : Int) (hx : a.eval x = .agg #[.int .i64 k, .int .i64 n, .int .i64 p])
    (h : wpList Tryd.prog ops Q rest (a.put dst (.slice (some ⟨w.heap.size, 0, none⟩) 1 1)) (w.alloc (.cells #[.int .i64 k, .int .i64 n, .int .i64 p] 28))) : wpList Tryd.prog ops Q (⟨dst, .buildSlice 22 1 #[(0, x)], ty0, pos, after, none⟩ :: rest) a w := by
  obtain ⟨i0, hi, hz0, hz1, hz2⟩ := info_parts infoEv
  refine go_buildSlice 22 28 1 _ #[.int .i64 k, .int .i64 n, .int .i64 p] i0 _ Tryd.underlying22 hi hz0 (by rw [hz1]; decide) (by rw [hz1]; decide) ?_ h
  rw [hz1]
  simp only [List.map_toArray, List.map_cons, List.map_nil, hx]
  exact ev_fill _ _ _
/-- append of one event that lies in a block of its own. -/
theorem go_evapp {ops : Array Oper} {rest : List Oper} {a : Act} {w : World} {Q : Exit → Act → World → Prop} {dst : Option Tmp} {ty0 : TypeId} {pos : String} {after : Array Edge} (x y : Operand) {base : Nat} {v : Value} (ts : List Ev) (t : Ev) (g : Nat)
    (hx : a.eval x = v) (hown : w.ownsRow base 28 3 v ts.length (evsC ts)) (hy : a.eval y = .slice (some ⟨g, 0, none⟩) 1 1) (hg : Blk w g 28 (evC t).toArray) (hn : ts.length ≤ 1000000) (hb : base ≤ w.heap.size)
    (h : ∀ v' w', w'.ownsRow base 28 3 v' (ts ++ [t]).length (evsC (ts ++ [t])) → w.grownBy w' v.ownBlock → wpList Tryd.prog ops Q rest (a.put dst v') w') : wpList Tryd.prog ops Q (⟨dst, .call { callee := .builtin .append, args := #[x, y], argTypes := #[22, 22] }, ty0, pos, after, none⟩ :: rest) a w := by
  obtain ⟨i0, hi, hz0, hz1, hz2⟩ := info_parts infoEv
  refine wpList_append_lies w rfl x y 22 rfl base 28 i0 (.agg #[.int .i64 0, .int .i64 0, .int .i64 0]) 3 24 Tryd.underlying22 hi hz0 hz1 hz2 (by kernel_rfl) (by decide) v ts.length (evsC ts) hx hown ⟨g, 0, none⟩ 1 1 (evC t) hy rfl ?_ (ev_one t) (by omega) (by unfold maxLen; omega) (by omega) hb w.heap.size rfl ?_
  · intro j u hu
    rw [Addr.add_mid, Nat.zero_add, hg.cell]
    simpa using hu
  · intro g' c' w' hown' hgrow _ _
    rw [← evsC_snoc] at hown'
    have e : ts.length + 1 = (ts ++ [t]).length := by simp
    rw [e] at hown'
    have := h (.slice (some ⟨g', 0, none⟩) (ts ++ [t]).length c') w' hown' hgrow
    rw [← e] at this
    exact this
theorem own_map {W : World} {base e size n b k : Nat} {v : Value} {xs : List Value} (h : W.ownsRow base e size v n xs) (hk : KindAt W b k) : some b ≠ v.ownBlock := by
  rcases h.2 with ⟨rfl, _⟩ | ⟨g', cap, cur, rfl, _, hh, _⟩
  · simp [Value.ownBlock]
  · intro he
    have he : b = g' := by simpa [Value.ownBlock] using he
    subst he
    obtain ⟨es, cl, hb, _⟩ := hk
    rw [hh] at hb
    injection hb with hb
    cases hb
theorem KindAt.alloc {W : World} {b k : Nat} (h : KindAt W b k) (o : Obj) : KindAt (W.alloc o) b k := h.keep (Below.heap_alloc W o b h.lt)
/-- A list and an error; the list lies in new memory. -/
def ParsePost (r : List Ev × Int) (w : World) (e : Ending) (w' : World) : Prop :=
  ∃ v, e = .returned (.tuple #[v, .int .i64 r.2]) ∧ w'.ownsRow w.heap.size 28 3 v r.1.length (evsC r.1) ∧ Below w.heap.size w w'
theorem ParsePost.nil {r : List Ev × Int} {w w' : World} (x : Int) (hr : r = ([], x)) (hb : Below w.heap.size w w') {e : Ending} (he : e = .returned (.tuple #[.slice none 0 0, .int .i64 x])) : ParsePost r w e w' := by
  subst hr
  exact ⟨_, he, World.ownsRow_nil _ _ _ _, hb⟩
theorem cut_run (s : ByteArray) (hs : s.size ≤ 1000000) (w : World) (hE : Env w) : Calls Tryd.prog 31 #[.string s, .string ⟨#[10]⟩] w fun e w' =>
    (∃ A B, cutL 10 (bl s) = some (A, B) ∧ e = .returned (.tuple #[.string (mkB A), .string (mkB B), .bool true]) ∨ cutL 10 (bl s) = none ∧ e = .returned (.tuple #[.string s, .string ⟨#[]⟩, .bool false])) ∧ Below w.heap.size w w' := by
  obtain ⟨m, hm⟩ := hE.max
  refine (Tryd.strings_Cut s ⟨#[10]⟩ m w (by omega) hm).mono ?_
  rintro e w' ⟨rfl, q, rfl⟩
  refine ⟨?_, below_drewN (Below.refl _ _) q⟩
  have h1 := cut_one 10 (bl s)
  rw [show (⟨#[10]⟩ : ByteArray).data.toList = [10] from rfl, show s.data.toList = bl s from rfl, h1]
  cases hc : cutL 10 (bl s) with
  | none =>
    refine ⟨[], [], .inr ⟨rfl, ?_⟩⟩
    simp only
    rw [show (⟨(bl s).toArray⟩ : ByteArray) = s from mkB_bl s]
  | some p => exact ⟨p.1, p.2, .inl ⟨rfl, rfl⟩⟩
theorem parse_done {l : List UInt8} {E : List Ev} (h : linesF l = some E) : parseR l = if 2000 < E.length then ([], 10) else if validE E = true then (E, 0) else ([], 3) := by unfold parseR; rw [h]
theorem parse_bad {l : List UInt8} (h : linesF l = none) : parseR l = ([], 2) := by unfold parseR; rw [h]
set_option maxRecDepth 100000 in
set_option maxHeartbeats 2000000 in
theorem parse_any (s : ByteArray) (hs : s.size ≤ 1000000) (w : World) (hE : Env w) : Calls Tryd.prog 16 #[.string s] w (ParsePost (parseR (bl s)) w) := by
  have hlow := hE.low
  have KK := Lib.hid (kinds_any w hE)
  have HE := Lib.hid hE
  clear hE
  go_enter Tryd.func16, Tryd.ntmps16
  go_wp2_with fail
  refine KK.out.mono ?_
  rintro e w1 ⟨b, rfl, hK, hb, bel1⟩
  have hbl := hK.lt
  have HK := Lib.hid hK
  have HB1 := Lib.hid bel1
  have HE1 := Lib.hid (HE.out.below bel1 hlow)
  have hsz1 := bel1.size
  clear hK bel1 KK
  go_wp2_with fail
  go_loopw [0, 5] (fun s0 s5 wr => ∃ (T : ByteArray) (E : List Ev), s0 = .string T ∧ E.length + T.size ≤ s.size ∧ wr.ownsRow w.heap.size 28 3 s5 E.length (evsC E) ∧ linesF (bl s) = (linesF (bl T)).map (E ++ ·) ∧ w1.heap.size ≤ wr.heap.size ∧ KindAt wr b 13 ∧ Env wr ∧ Below w.heap.size w wr)
    (fun s0 _ _ => match s0 with | .string T => T.size | _ => 0)
  case atStart => exact ⟨s, [], rfl, by simp, World.ownsRow_nil _ _ _ _, by simp, Nat.le_refl _, HK.out, HE1.out, HB1.out⟩
  case round =>
    obtain ⟨T, E, rfl, hET, hown, hlin, hszr, hK, hE, bel⟩ := hrel
    have hlowr : 3 ≤ wr.heap.size := hE.low
    have hszw := bel.size
    have hbr := hK.lt
    by_cases hT : 0 < T.size
    · have d1 : decide (0 < T.size) = true := by simpa using hT
      have d1' : decide (0 < (T.size : Int)) = true := by simp; omega
      have hTne : bl T ≠ [] := fun e => by
        have h0 : T.size = 0 := by rw [← bl_len, e]; rfl
        omega
      have KC := cut_run T (by omega) wr hE
      have HOWN := Lib.hid hown
      have HK2 := Lib.hid hK
      have HE2 := Lib.hid hE
      have BEL := Lib.hid bel
      have KC := Lib.hid KC
      have HLIN := Lib.hid hlin
      clear hown hK hE bel hlin HK HE1 HB1
      go_wp2_with fail
      refine KC.out.mono ?_
      rintro e w2 ⟨⟨A, B, hcase⟩, b2⟩
      have hsz2 := b2.size
      have HOWN2 := Lib.hid (HOWN.out.kept (grown_of_below b2) (Classical.em _))
      have HK3 := Lib.hid (HK2.out.below b2 hbr)
      have HE3 := Lib.hid (HE2.out.below b2 hlowr)
      have BEL2 := Lib.hid (BEL.out.trans (b2.mono hszw))
      clear b2 HOWN HK2 HE2 BEL KC
      rcases hcase with ⟨hc, rfl⟩ | ⟨hc, rfl⟩
      · have hlen : A.length + 1 + B.length = T.size := by
          have := congrArg List.length (cutL_some hc).1
          rw [bl_len] at this
          simp at this
          omega
        have KL := line_any (mkB A) (by rw [mkB_size]; omega) b w2 HE3.out HK3.out
        rw [bl_mkB] at KL
        have KL := Lib.hid KL
        have HLC := Lib.hid (linesF_cut hc)
        clear hc
        go_wp2_with fail
        refine KL.out.mono ?_
        rintro e w3 hpost
        obtain ⟨ev, ok, rfl, hline, b3⟩ := hpost
        have hsz3 := b3.size
        have hbr3 := HK3.out.lt
        have HOWN3 := Lib.hid (HOWN2.out.kept (grown_of_below b3) (Classical.em _))
        have HK4 := Lib.hid (HK3.out.below b3 hbr3)
        have HE4 := Lib.hid (HE3.out.below b3 (by omega))
        have BEL3 := Lib.hid (BEL2.out.trans (b3.mono (by omega)))
        clear b3 HOWN2 HK3 HE3 BEL2 KL
        obtain ⟨cy, kd, nn⟩ := ev
        unfold evC
        simp only
        cases ok
        · have R : linesF (bl s) = none := by
            rw [HLIN.out, HLC.out, hline]
            rfl
          have R := Lib.hid (parse_bad R)
          clear hline HLIN HLC
          go_wp2_with fail
          go_ret2
          exact ParsePost.nil 2 R.out (BEL3.out.alloc (by omega) _) rfl
        · have R : linesF (bl s) = (linesF B).map ((E ++ [⟨cy, kd, nn⟩]) ++ ·) := by
            rw [HLIN.out, HLC.out, hline]
            simp only [if_true, Option.bind_some, Option.map_map]
            congr 1
            funext x
            simp
          have R := Lib.hid R
          have HN := Lib.hid (show E.length ≤ 1000000 by omega)
          clear hline HLIN HLC
          go_wp2_with (first
            | ((with_reducible refine go_ev1 (.tmp 34) cy kd nn (by with_unfolding_all rfl) ?_))
            | ((with_reducible refine go_evapp (.tmp 33) (.tmp 35) E ⟨cy, kd, nn⟩ _ (by with_unfolding_all rfl) ((HOWN3.out.alloc _).alloc _) (by with_unfolding_all rfl) (by with_unfolding_all exact Blk.new (w3.alloc _) _ _) HN.out (by simp; omega) ?_); intro v' w4 hown4 hgrow; have bel4 : Below w.heap.size w w4 := ((BEL3.out.alloc (by omega) _).alloc (by simp; omega) _).trans (below_of_grown hgrow (by simp; omega) (fun k e => ((HOWN3.out).lt k e).1)); have g4 := hgrow.size; have k4 := ((HK4.out.alloc _).alloc _).keep (hgrow.block b ((HK4.out.alloc _).alloc _).lt (own_map HOWN3.out HK4.out)); have FF := Lib.hid (And.intro hown4 (And.intro bel4 (And.intro g4 k4))); clear hown4 bel4 hgrow g4 k4))
          obtain ⟨f1, f2, f3, f4⟩ := FF.out
          simp only [World.alloc, Array.size_push] at f3
          exact ⟨⟨mkB B, E ++ [⟨cy, kd, nn⟩], rfl, by rw [List.length_append, mkB_size]; simp; omega, f1, by rw [bl_mkB]; exact R.out, by omega, f4, HE.out.below f2 hlow, f2⟩, by show (mkB B).size < T.size; rw [mkB_size]; omega⟩
      · have R : linesF (bl s) = none := by
          rw [HLIN.out, linesF_none hc hTne]
          rfl
        have R := Lib.hid (parse_bad R)
        have KL := Lib.hid (line_any T (by omega) b w2 HE3.out HK3.out)
        clear hc HLIN HOWN2
        go_wp2_with fail
        refine KL.out.mono ?_
        rintro e w3 hpost
        obtain ⟨ev, ok, rfl, hline, b3⟩ := hpost
        have hsz3 := b3.size
        have BEL3 := Lib.hid (BEL2.out.trans (b3.mono (by omega)))
        clear b3 HK3 HE3 BEL2 KL hline
        obtain ⟨cy, kd, nn⟩ := ev
        unfold evC
        simp only
        go_wp2_with fail
        go_ret2
        exact ParsePost.nil 2 R.out (BEL3.out.alloc (by omega) _) rfl
    · have d1 : decide (0 < T.size) = false := by simpa using hT
      have d1' : decide (0 < (T.size : Int)) = false := decide_eq_false (by omega)
      have e0 : bl T = [] := List.length_eq_zero_iff.1 (by rw [bl_len]; omega)
      rw [e0, linesF_nil] at hlin
      have R : linesF (bl s) = some E := by rw [hlin]; simp
      have R := parse_done R
      by_cases h20 : 2000 < E.length
      · rw [if_pos h20] at R
        have d2 : decide (2000 < E.length) = true := by simpa using h20
        have d2' : decide (2000 < (E.length : Int)) = true := decide_eq_true (by omega)
        have R := Lib.hid R
        obtain ⟨a5, c5, rfl, _, _⟩ := evs_own hown
        have BEL := Lib.hid bel
        obtain ⟨nE, hnE⟩ : ∃ x, E.length = x := ⟨_, rfl⟩
        rw [hnE] at d2 d2' ⊢
        clear hown hlin hnE h20 hK hE bel HK HE1 HB1 HE
        go_wp2_with fail
        go_ret2
        exact ParsePost.nil 10 R.out BEL.out rfl
      · rw [if_neg h20] at R
        have d2 : decide (2000 < E.length) = false := by simpa using h20
        have d2' : decide (2000 < (E.length : Int)) = false := decide_eq_false (by omega)
        obtain ⟨a5, c5, rfl, hat, _⟩ := evs_own hown
        have HOWN := Lib.hid hown
        have BEL := Lib.hid bel
        have KV := valid_any a5 c5 E wr hat (by omega)
        cases hv : validE E
        · rw [hv, if_neg (by decide)] at R
          rw [hv] at KV
          have KV := Lib.hid KV
          have R := Lib.hid R
          clear hown hlin h20 hK hE bel HK HE1 HB1 HE hat hv
          go_wp2_with fail
          refine KV.out.mono ?_
          rintro e w5 ⟨rfl, b5⟩
          go_wp2_with fail
          go_ret2
          exact ParsePost.nil 3 R.out (BEL.out.trans (b5.mono hszw)) rfl
        · rw [hv, if_pos rfl] at R
          rw [hv] at KV
          have KV := Lib.hid KV
          have R := Lib.hid R
          clear hown hlin h20 hK hE bel HK HE1 HB1 HE hat hv
          go_wp2_with fail
          refine KV.out.mono ?_
          rintro e w5 ⟨rfl, b5⟩
          go_wp2_with fail
          go_ret2
          exact ⟨.slice a5 E.length c5, by rw [R.out]; rfl, by rw [R.out]; exact HOWN.out.kept (grown_of_below b5) (Classical.em _), BEL.out.trans (b5.mono hszw)⟩
end Go.Proofs.YtkafmpgihhnhdaaDoor
