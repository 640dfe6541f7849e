/-
  tools.Parse: the table of a text, or why there is none. Any text of at most 1,000,000 bytes.
-/
import Derived.Test.YtlpmbjgimllmgaaDoorToolP16
namespace Go.Proofs.YtlpmbjgimllmgaaDoor
open Go Go.RowKit
set_option linter.unusedVariables false

theorem ne_of (T : ByteArray) (h : bl T ≠ []) : (T.toList != []) = true ∧ (T.toList == []) = false := by
  rw [toList_bl]
  exact ⟨bne_iff_ne.2 h, beq_eq_false_iff_ne.2 h⟩
theorem eq_of0 (T : ByteArray) (h : bl T = []) : (T.toList != []) = false ∧ (T.toList == []) = true := by
  rw [toList_bl, h]
  exact ⟨rfl, rfl⟩
/-- A table, a number and an error; the table lies in new memory. -/
def ParsePost (r : List To × Int × Int) (w : World) (e : Ending) (w' : World) : Prop :=
  ∃ v, e = .returned (.tuple #[v, .int .i64 r.2.1, .int .i64 r.2.2]) ∧ w'.ownsRow w.heap.size 29 4 v r.1.length (tosC r.1) ∧ Below w.heap.size w w'
theorem ParsePost.nil {r : List To × Int × Int} {w w' : World} (x y : Int) (hr : r = ([], x, y)) (hb : Below w.heap.size w w') {e : Ending} (he : e = .returned (.tuple #[.slice none 0 0, .int .i64 x, .int .i64 y])) : ParsePost r w e w' := by
  subst hr
  exact ⟨_, he, World.ownsRow_nil _ _ _ _, hb⟩
set_option maxRecDepth 100000 in
set_option maxHeartbeats 1000000 in
theorem parse_any (s : ByteArray) (hs : s.size ≤ 1000000) (w : World) (hE : Env w) : Calls Tryd.prog 18 #[.string s] w (ParsePost (parseT (bl s)) w) := by
  have hlow := hE.low
  have HE0 := Lib.hid hE
  clear hE
  go_enter Tryd.func18, Tryd.ntmps18
  go_wp2_with fail
  go_loopw [0, 5] (fun s0 s5 wr => ∃ (T : ByteArray) (acc : List To) (v5 : Value), v5 = s5 ∧ s0 = .string T ∧ acc.length + T.size ≤ s.size ∧ parseT (bl s) = parseA acc (bl T) ∧ wr.ownsRow w.heap.size 29 4 v5 acc.length (tosC acc) ∧ Below w.heap.size w wr)
    (fun s0 _ _ => match s0 with | .string T => T.size | _ => 0)
  case atStart => exact ⟨s, [], _, rfl, rfl, by simp, rfl, World.ownsRow_nil _ _ _ _, Below.refl _ _⟩
  case round =>
    obtain ⟨T, acc, v5, rfl, rfl, hET, hp, hown, bel⟩ := hrel
    have hE := HE0.out.below bel hlow
    have hlowr : 4 ≤ wr.heap.size := hE.low
    have hszw := bel.size
    by_cases hT : bl T = []
    · obtain ⟨d1, d2⟩ := eq_of0 T hT
      rw [hT, parseA_nil] at hp
      obtain ⟨a5, c5, rfl, hat, _⟩ := tos_own hown
      have KV := valid_any a5 c5 acc wr hat (by omega)
      have HOWN := Lib.hid hown
      have BEL := Lib.hid bel
      cases hv : validT acc
      · rw [hv, if_neg (by decide)] at hp
        rw [hv] at KV
        have KV := Lib.hid KV
        have R := Lib.hid hp
        clear hown hp bel hat hv hE hT
        go_wp2_with fail
        refine KV.out.mono ?_
        rintro e w5 ⟨rfl, b5⟩
        go_wp2_with fail
        go_ret3
        exact ParsePost.nil 0 1 R.out (BEL.out.trans (b5.mono hszw)) rfl
      · rw [hv, if_pos rfl] at hp
        rw [hv] at KV
        have KV := Lib.hid KV
        have R := Lib.hid hp
        clear hown hp bel hat hv hE hT
        go_wp2_with fail
        refine KV.out.mono ?_
        rintro e w5 ⟨rfl, b5⟩
        go_wp2_with fail
        go_ret3
        exact ⟨.slice a5 acc.length c5, by rw [R.out]; rfl, by rw [R.out]; exact HOWN.out.kept (grown_of_below b5) (Classical.em _), BEL.out.trans (b5.mono hszw)⟩
    · obtain ⟨d1, d2⟩ := ne_of T hT
      have KC := Lib.hid (cut_run T (by omega) wr hE)
      have HOWN := Lib.hid hown
      have HE2 := Lib.hid hE
      have BEL := Lib.hid bel
      have HP := Lib.hid hp
      have HT := Lib.hid hT
      clear hown hE bel hp hT
      go_wp2_with fail
      refine KC.out.mono ?_
      rintro e w2 ⟨⟨A, B, hcase⟩, b2⟩
      have hsz2 := b2.size
      have HOWN2 := Lib.hid (HOWN.out.kept (grown_of_below b2) (Classical.em _))
      have HE3 := Lib.hid (HE2.out.below b2 hlowr)
      have BEL2 := Lib.hid (BEL.out.trans (b2.mono hszw))
      clear b2 HOWN HE2 BEL KC
      rcases hcase with ⟨hc, rfl⟩ | ⟨hc, rfl⟩
      · have hlen := cut_less hc
        rw [bl_len] at hlen
        have KL := tool_any (mkB A) (by rw [mkB_size]; omega) w2 HE3.out
        rw [bl_mkB] at KL
        have KL := Lib.hid KL
        have HC := Lib.hid hc
        clear hc
        go_wp2_with fail
        refine KL.out.mono ?_
        rintro e w3 ⟨t, ok, rfl, hline, b3⟩
        have hsz3 := b3.size
        have HOWN3 := Lib.hid (HOWN2.out.kept (grown_of_below b3) (Classical.em _))
        have BEL3 := Lib.hid (BEL2.out.trans (b3.mono (by omega)))
        clear b3 HOWN2 HE3 BEL2 KL
        obtain ⟨x, y, z, u⟩ := t
        unfold toC
        simp only
        cases ok
        · have R := Lib.hid (HP.out.trans (parseA_bad HC.out (by simpa using hline)))
          obtain ⟨a5, c5, rfl, _, _⟩ := tos_own HOWN3.out
          clear hline HP HC HOWN3
          go_wp2_with fail
          go_ret3
          exact ParsePost.nil _ 2 R.out (BEL3.out.alloc (by omega) _) rfl
        · have R := Lib.hid (HP.out.trans (parseA_tool HC.out (by simpa using hline)))
          have HN := Lib.hid (show acc.length ≤ 1000000 by omega)
          clear hline HP HC
          go_wp2_with (first
            | ((with_reducible refine go_to1 (.tmp 33) x y z u (by with_unfolding_all rfl) ?_))
            | ((with_reducible refine go_toapp (.tmp 32) (.tmp 34) acc ⟨x, y, z, u⟩ _ (by with_unfolding_all rfl) ((HOWN3.out.alloc _).alloc _) (by with_unfolding_all rfl) (by with_unfolding_all exact Blk.new (w3.alloc _) _ _) HN.out (by simp; omega) ?_); intro v' w4 hown4 hgrow; have bel4 : Below w.heap.size w w4 := ((BEL3.out.alloc (by omega) _).alloc (by simp; omega) _).trans (below_of_grown hgrow (by simp; omega) (fun k e => ((HOWN3.out).lt k e).1)); have FF := Lib.hid (And.intro hown4 bel4); clear hown4 bel4 hgrow))
          exact ⟨⟨mkB B, acc ++ [⟨x, y, z, u⟩], _, rfl, rfl, by rw [List.length_append, mkB_size]; simp; omega, by rw [bl_mkB]; exact R.out, FF.out.1, FF.out.2⟩, by show (mkB B).size < T.size; rw [mkB_size]; omega⟩
      · have R := Lib.hid (HP.out.trans (parseA_none HT.out hc))
        have KL := Lib.hid (tool_any T (by omega) w2 HE3.out)
        obtain ⟨a5, c5, rfl, _, _⟩ := tos_own HOWN2.out
        clear hc HP HT
        go_wp2_with fail
        refine KL.out.mono ?_
        rintro e w3 ⟨t, ok, rfl, hline, b3⟩
        have hsz3 := b3.size
        have BEL3 := Lib.hid (BEL2.out.trans (b3.mono (by omega)))
        clear b3 HE3 BEL2 KL hline HOWN2
        obtain ⟨x, y, z, u⟩ := t
        unfold toC
        simp only
        cases ok
        all_goals
          go_wp2_with fail
          go_ret3
          exact ParsePost.nil _ 2 R.out (BEL3.out.alloc (by omega) _) rfl
end Go.Proofs.YtlpmbjgimllmgaaDoor
