/-
  OutputFired returns true. Its arguments: any.
-/
import Derived.Test.YtbagekkgmemfcaaFired
import Derived.Test.YtbagekkgmemfcaaTab
import Derived.Deep.RegionLaw
namespace Go.Proofs.Ytbagekkgmemfcaa
open Go Go.RowKit
set_option linter.unusedVariables false

def mcell (m : MarkV) : List Value := [.int .i64 m.pos, .int .i64 m.kind, .int .i64 m.item]
theorem marks_of_tab {w : World} {a : Option Addr} {n : Nat} {m : Nat → MarkV} (h : TabAt w a 3 n (fun i => mcell (m i))) : Marks w a n m := fun i hi => by
  obtain ⟨_, b, o, e, hlt, hc⟩ := h i hi
  exact ⟨b, o, e, hlt, hc 0 (by omega), hc 1 (by omega), hc 2 (by omega)⟩
/-- Marks that came in. -/
theorem marks_in {w : World} {a : Option Addr} {len cap : Nat} (h : Leaf w (.tab markKs) (.slice a len cap)) : ∃ m : Nat → MarkV, TabAt w a 3 len (fun i => mcell (m i)) ∧ len ≤ 9223372036854775807 ∧ (a = none → len = 0 ∧ cap = 0) := by
  obtain ⟨f, ht, hl, hm, h0⟩ := TabAt.of_leaf h (C := 3) rfl (by omega)
  have hx : ∀ i, ∃ m : MarkV, i < len → f i = mcell m := by
    intro i
    by_cases hi : i < len
    · have hl := hl i hi
      unfold markKs at hl
      obtain ⟨v0, c, e0, l0, hl⟩ := hl.cons
      obtain ⟨v1, c, rfl, l1, hl⟩ := hl.cons
      obtain ⟨v2, c, rfl, l2, hl⟩ := hl.cons
      cases hl.end
      obtain ⟨z0, rfl, _⟩ := l0.num
      obtain ⟨z1, rfl, _⟩ := l1.num
      obtain ⟨z2, rfl, _⟩ := l2.num
      exact ⟨⟨z0, z1, z2⟩, fun _ => e0⟩
    · exact ⟨⟨0, 0, 0⟩, fun h => absurd h hi⟩
  exact ⟨fun i => (hx i).choose, ht.congr (fun i hi => (hx i).choose_spec hi), hm, h0⟩
theorem infoMark : (Try.prog.info? 36).map (fun i => (i.zero, i.size, i.bytes)) = some (some (.agg #[.int .i64 0, .int .i64 0, .int .i64 0]), 3, 24) := by kernel_rfl
/-- The changed marks. -/
def cut (m : Nat → MarkV) (k i : Nat) : MarkV := if i < k then ⟨(m i).pos % 20, 1 + (m i).kind % 6, (m i).item⟩ else m i

set_option maxRecDepth 100000 in
set_option maxHeartbeats 1000000 in
theorem fired_walk (a0 : Option Addr) (len0 cap0 : Nat) (a1 a2 : Int) (w : World) (h0 : Leaf w (.tab markKs) (.slice a0 len0 cap0)) :
    Calls Try.prog 5 #[.slice a0 len0 cap0, .int .i64 a1, .int .i64 a2] w fun e w' => e = .returned (.bool true) ∧ Below w.heap.size w w' := by
  obtain ⟨m, ht, hmax, hnil⟩ := marks_in h0
  obtain ⟨i0, hi, hz0, hz1, hz2⟩ := info_parts infoMark
  clear h0
  go_enter Try.func5, Try.ntmps5
  go_wp2_with fail
  refine (awake_true _).mono ?_
  rintro e wa ⟨rfl, bel⟩
  by_cases hn : len0 ≤ 60
  · have d60 : decide ((60 : Int) < (len0 : Int)) = false := by simp; omega
    have ht1 := ht.below bel
    have hM1 := marks_of_tab ht1
    have hsz := bel.size
    go_wp2_with (at_builtin; refine wpList_append_tab rfl (.tmp 16) (.tmp 17) 34 rfl w.heap.size 36 i0 (.agg #[.int .i64 0, .int .i64 0, .int .i64 0]) 3 24 Try.underlying34 hi hz0 hz1 hz2 rfl (by decide) (.slice (some ⟨wa.heap.size, 0, none⟩) 0 0) 0 [] rfl (World.ownsRow_made wa #[] 0 hsz (by unfold maxLen; omega) rfl) a0 len0 cap0 (flat (fun i => mcell (m i)) len0) rfl hnil (flat_len fun i hi => rfl) (fun ad e => by subst e; exact (ht1.below ((Below.refl _ _).alloc (Nat.le_refl _) _)).cells (by omega)) (by intro u hu; obtain ⟨i, _, hu⟩ := flat_mem hu; simp [mcell] at hu; rcases hu with rfl | rfl | rfl <;> rfl) (by unfold maxLen; omega) (by omega) (by simp; omega) ?_)
    intro v' w1 own' hgrow hne
    rcases OwnTab.of_own own' (fun i hi => rfl) with ⟨rfl, _⟩ | ⟨g, cap, rfl, hg, ot⟩
    · exact absurd rfl hne
    have bel1 := (bel.alloc hsz (.cells #[] 36)).trans (below_of_grown hgrow (by simp; omega) (fun j hj => by simp [Value.ownBlock] at hj; omega))
    clear own' hgrow hne
    go_wp2_with fail
    go_loopw [21] (fun v21 wr => ∃ k : Nat, k ≤ len0 ∧ v21 = .int .i64 k ∧ OwnTab wr g 36 3 len0 (fun i => mcell (cut m k i)) ∧ Below w.heap.size w wr)
      (fun v21 _ => len0 - (intOf v21).toNat)
    case atStart => exact ⟨0, by omega, rfl, ot.congr (fun i hi => by simp [cut]), bel1⟩
    case round =>
      obtain ⟨k, hk, rfl, otr, belr⟩ := hrel
      by_cases hlt : k < len0
      · have e0 := otr.cell (j := 0) hlt (by omega)
        have e1 := otr.cell (j := 1) hlt (by omega)
        have f0 := otr.frozen (k * 3)
        have f1 := otr.frozen (k * 3 + 1)
        have hcut : cut m k k = m k := by simp [cut]
        simp only [hcut, mcell] at e0 e1
        simp at e0 e1
        have i1 : (0 : Int) ≤ (k : Int) := by omega
        have i2 : (k : Int) < (len0 : Int) := by omega
        generalize hp : (m k).pos = p at *
        generalize hq : (m k).kind = q at *
        obtain ⟨d, hd⟩ : ∃ d, q % 6 = d := ⟨_, rfl⟩
        obtain ⟨p', hp'⟩ : ∃ p', p % 20 = p' := ⟨_, rfl⟩
        have wr1 : IntKind.i64.wrap (1 + d) = 1 + d := by rw [IntKind.wrap_i64]; omega
        go_wp2_with fail
        go_region_law (first | (go_simp; go_at_call 8; refine (mod_any _ _ _ (by omega) (by omega)).mono ?_; rintro e w' ⟨rfl, rfl⟩; first | rw [hd] | rw [hp']))
        all_goals
          go_wp2_with fail
          go_roundw
          case rel =>
            refine ⟨k + 1, hlt, by go_num, OwnTab.congr ((otr.put (j := 1) hlt (by omega) (.int .i64 (1 + d))).put (j := 0) hlt (by omega) (.int .i64 p')).drew ?_, Below.drew ((belr.setCell (by simp; omega) _).setCell (by simp; omega) _)⟩
            intro i hi
            by_cases e : i = k
            · subst e
              simp [mcell, cut, hp, hq, hd, hp']
            · simp [e, cut, show (i < k + 1) = (i < k) by simp; omega]
          case measure => simp [intOf]; omega
      · obtain rfl : k = len0 := by omega
        have hM := marks_of_tab (ht.below belr)
        have hM2 := marks_of_tab otr.tab
        obtain ⟨f', hf⟩ : ∃ f', a1 % 22 = f' := ⟨_, rfl⟩
        obtain ⟨t', ht'⟩ : ∃ t', a2 % 22 = t' := ⟨_, rfl⟩
        have hl1 := fired_len m a1 a2 k
        have hl2 := fired_len (cut m k) (f' - 1) (t' - 1) k
        go_wp2_with (go_at_call 8; refine (mod_any _ _ _ (by omega) (by omega)).mono ?_; rintro e w' ⟨rfl, rfl⟩; first | rw [hf] | rw [ht'])
        refine (fired_any a0 k cap0 m a1 a2 _ hM hn).mono ?_
        rintro e wA ⟨v1, rfl, own1, belA⟩
        obtain ⟨x1, c1, rfl⟩ := own_form own1
        have I1 := IntsAt.own own1
        have belA' := belr.trans (belA.mono belr.size)
        go_wp2_with fail
        refine (rfired_any a0 k cap0 m a1 a2 _ (hM.below belA) hn).mono ?_
        rintro e wB ⟨v2, rfl, own2, belB⟩
        obtain ⟨x2, c2, rfl⟩ := own_form own2
        have I2 := IntsAt.own own2
        have J1 := I1.below belB
        have belB' := belA'.trans (belB.mono belA'.size)
        clear own1 own2 I1
        go_wp2_with fail
        refine (same_any x1 x2 _ c1 c2 _ _ J1 I2 (by omega)).mono ?_
        rintro e wC ⟨rfl, q1, rfl⟩
        have hM3 : Marks (wB.drewN q1) _ _ _ := hM2.below (below_drewN (belA.trans (belB.mono belA.size)) q1)
        go_wp2_with fail
        refine (fired_any (some ⟨g, 0, none⟩) k cap (cut m k) (f' - 1) (t' - 1) (wB.drewN q1) hM3 hn).mono ?_
        rintro e wD ⟨v3, rfl, own3, belD⟩
        obtain ⟨x3, c3, rfl⟩ := own_form own3
        have I3 := IntsAt.own own3
        have belD' := (below_drewN belB' q1).trans (belD.mono belB'.size)
        go_wp2_with fail
        refine (rfired_any (some ⟨g, 0, none⟩) k cap (cut m k) (f' - 1) (t' - 1) _ (Marks.below hM3 belD) hn).mono ?_
        rintro e wE ⟨v4, rfl, own4, belE⟩
        obtain ⟨x4, c4, rfl⟩ := own_form own4
        have I4 := IntsAt.own own4
        have J3 := I3.below belE
        have belE' := belD'.trans (belE.mono belD'.size)
        clear own3 own4 I3
        go_wp2_with fail
        refine (same_any x3 x4 _ c3 c4 _ _ J3 I4 (by omega)).mono ?_
        rintro e wF ⟨rfl, q2, rfl⟩
        go_wp2_with fail
        go_ret
        exact ⟨rfl, below_drewN belE' q2⟩
  · go_wp2_with fail
    go_ret
    exact ⟨rfl, bel⟩
end Go.Proofs.Ytbagekkgmemfcaa
