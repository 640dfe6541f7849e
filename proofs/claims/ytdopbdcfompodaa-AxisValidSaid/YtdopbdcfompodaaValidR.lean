/-
  What cncref26.Valid leaves.
-/
import Derived.Test.YtdopbdcfompodaaValidL
namespace Go.Proofs.Ytdopbdcfompodaa
open Go Go.RowKit
set_option linter.unusedVariables false

def bigP (st sp ac je lo hi ba : Int) : Prop := 4 ≤ st ∧ st ≤ 4096 ∧ 1 ≤ sp ∧ sp ≤ 1048576 ∧ 2 ≤ ac ∧ ac ≤ 1048576 ∧ 4 ≤ je ∧ je ≤ 1048576 ∧ -16777216 ≤ lo ∧ hi ≤ 16777216 ∧ lo ≤ hi ∧ 0 ≤ ba ∧ ba ≤ 64
open Classical in
theorem validB_iff (st sp ac je lo hi ba og sg : Int) (pn : Nat) (z : Nat → Int) : validB st sp ac je lo hi ba og sg pn z = true ↔ bigP st sp ac je lo hi ba ∧ tabP og sg pn z := by
  unfold validB trav pitB bigP
  simp only [Bool.and_eq_true, btw_t, decide_eq_true_eq]
  constructor
  · rintro ⟨⟨a1, a2⟩, ⟨b1, b2⟩, ⟨c1, c2⟩, ⟨d1, d2⟩, ⟨e1, e2, e3⟩, ⟨f1, f2⟩, h⟩
    exact ⟨⟨a1, a2, b1, b2, c1, c2, d1, d2, e1, e2, e3, f1, f2⟩, h⟩
  · rintro ⟨⟨a1, a2, b1, b2, c1, c2, d1, d2, e1, e2, e3, f1, f2⟩, h⟩
    exact ⟨⟨a1, a2⟩, ⟨b1, b2⟩, ⟨c1, c2⟩, ⟨d1, d2⟩, ⟨e1, e2, e3⟩, ⟨f1, f2⟩, h⟩

set_option maxRecDepth 100000 in
set_option maxHeartbeats 4000000 in
theorem rvalid_any (st sp ac je lo hi ba og sg : Int) (pa : Option Addr) (pn pc : Nat) (z : Nat → Int) (w : World) (hz : IntsAt w pa pn z) (hn : pn ≤ 9223372036854775807) :
    Calls Try.prog 16 #[.agg (axc st sp ac je lo hi ba og sg pa pn pc)] w fun e w' => e = .returned (.bool (validB st sp ac je lo hi ba og sg pn z)) ∧ Below w.heap.size w w' := by
  have bel := (Below.refl w.heap.size w).alloc (Nat.le_refl _) (.cells #[.int .i64 st, .int .i64 sp, .int .i64 ac, .int .i64 je, .int .i64 lo, .int .i64 hi, .int .i64 ba, .int .i64 og, .int .i64 sg, .slice pa pn pc] 25)
  have iff := validB_iff st sp ac je lo hi ba og sg pn z
  have no : ¬ (bigP st sp ac je lo hi ba ∧ tabP og sg pn z) → validB st sp ac je lo hi ba og sg pn z = false := fun h => by
    cases hv : validB st sp ac je lo hi ba og sg pn z with
    | false => rfl
    | true => exact absurd (iff.1 hv) h
  generalize validB st sp ac je lo hi ba og sg pn z = R at iff no ⊢
  have YES := Lib.hid iff.2
  have NO := Lib.hid no
  clear iff no
  have mot : (4 ≤ st ∧ st ≤ 4096 ∧ 1 ≤ sp ∧ sp ≤ 1048576 ∧ 2 ≤ ac ∧ ac ≤ 1048576 ∧ 4 ≤ je ∧ je ≤ 1048576) ∨ st < 4 ∨ (4 ≤ st ∧ 4096 < st) ∨ (4 ≤ st ∧ st ≤ 4096 ∧ sp < 1) ∨ (4 ≤ st ∧ st ≤ 4096 ∧ 1 ≤ sp ∧ 1048576 < sp) ∨ (4 ≤ st ∧ st ≤ 4096 ∧ 1 ≤ sp ∧ sp ≤ 1048576 ∧ ac < 2) ∨
      (4 ≤ st ∧ st ≤ 4096 ∧ 1 ≤ sp ∧ sp ≤ 1048576 ∧ 2 ≤ ac ∧ 1048576 < ac) ∨ (4 ≤ st ∧ st ≤ 4096 ∧ 1 ≤ sp ∧ sp ≤ 1048576 ∧ 2 ≤ ac ∧ ac ≤ 1048576 ∧ je < 4) ∨ (4 ≤ st ∧ st ≤ 4096 ∧ 1 ≤ sp ∧ sp ≤ 1048576 ∧ 2 ≤ ac ∧ ac ≤ 1048576 ∧ 4 ≤ je ∧ 1048576 < je) := by omega
  rcases mot with ⟨m1, m2, m3, m4, m5, m6, m7, m8⟩ | mot
  · have tra : (-16777216 ≤ lo ∧ hi ≤ 16777216 ∧ lo ≤ hi ∧ 0 ≤ ba ∧ ba ≤ 64 ∧ (pn : Int) ≤ 64) ∨ lo < -16777216 ∨ (-16777216 ≤ lo ∧ 16777216 < hi) ∨ (-16777216 ≤ lo ∧ hi ≤ 16777216 ∧ hi < lo) ∨ (-16777216 ≤ lo ∧ hi ≤ 16777216 ∧ lo ≤ hi ∧ ba < 0) ∨
        (-16777216 ≤ lo ∧ hi ≤ 16777216 ∧ lo ≤ hi ∧ 0 ≤ ba ∧ 64 < ba) ∨ (-16777216 ≤ lo ∧ hi ≤ 16777216 ∧ lo ≤ hi ∧ 0 ≤ ba ∧ ba ≤ 64 ∧ 64 < (pn : Int)) := by omega
    rcases tra with ⟨t1, t2, t3, t4, t5, t6⟩ | tra
    · have big : bigP st sp ac je lo hi ba := ⟨m1, m2, m3, m4, m5, m6, m7, m8, t1, t2, t3, t4, t5⟩
      have BIG := Lib.hid big
      clear big
      by_cases hp0 : pn = 0
      · subst hp0
        have hR := YES.out ⟨BIG.out, .inl rfl⟩
        subst hR
        clear hz
        unfold axc
        go_enter Try.func16, Try.ntmps16
        go_wp2_with fail
        go_ret
        exact ⟨rfl, bel⟩
      · have d0 : ((pn : Int) == 0) = false := by simp; omega
        have tab : (-16777216 ≤ og ∧ og ≤ 16777216 ∧ 4 ≤ sg ∧ sg ≤ 16777216) ∨ og < -16777216 ∨ (-16777216 ≤ og ∧ 16777216 < og) ∨ (-16777216 ≤ og ∧ og ≤ 16777216 ∧ sg < 4) ∨ (-16777216 ≤ og ∧ og ≤ 16777216 ∧ 4 ≤ sg ∧ 16777216 < sg) := by omega
        rcases tab with ⟨g1, g2, g3, g4⟩ | tab
        · exact rvalid_loop st sp ac je lo hi ba og sg pa pn pc z w hz R hp0 t6 m1 m2 m3 m4 m5 m6 m7 m8 t1 t2 t3 t4 t5 g1 g2 g3 g4
            (fun hk => YES.out ⟨BIG.out, .inr ⟨by omega, ⟨g1, g2⟩, ⟨g3, g4⟩, hk⟩⟩)
            (fun i hi hk => NO.out (by
              rintro ⟨_, h | h⟩
              · exact hp0 h
              · exact hk (h.2.2.2 i hi)))
        · have hR := NO.out (by
            rintro ⟨_, h | h⟩
            · exact hp0 h
            · have := h.2.1; have := h.2.2.1; omega)
          subst hR
          clear hz
          unfold axc
          rcases tab with g1 | ⟨g1, g2⟩ | ⟨g1, g2, g3⟩ | ⟨g1, g2, g3, g4⟩
          all_goals
            go_enter Try.func16, Try.ntmps16
            go_wp2_with fail
            go_ret
            exact ⟨rfl, bel⟩
    · have hR := NO.out (by
        rintro ⟨h, h'⟩
        unfold bigP at h
        rcases h' with h' | h'
        · omega
        · have := h'.1; omega)
      subst hR
      clear hz
      unfold axc
      rcases tra with t1 | ⟨t1, t2⟩ | ⟨t1, t2, t3⟩ | ⟨t1, t2, t3, t4⟩ | ⟨t1, t2, t3, t4, t5⟩ | ⟨t1, t2, t3, t4, t5, t6⟩
      all_goals
        go_enter Try.func16, Try.ntmps16
        go_wp2_with fail
        go_ret
        exact ⟨rfl, bel⟩
  · have hR := NO.out (by rintro ⟨h, _⟩; unfold bigP at h; omega)
    subst hR
    clear hz
    unfold axc
    rcases mot with m1 | ⟨m1, m2⟩ | ⟨m1, m2, m3⟩ | ⟨m1, m2, m3, m4⟩ | ⟨m1, m2, m3, m4, m5⟩ | ⟨m1, m2, m3, m4, m5, m6⟩ | ⟨m1, m2, m3, m4, m5, m6, m7⟩ | ⟨m1, m2, m3, m4, m5, m6, m7, m8⟩
    all_goals
      go_enter Try.func16, Try.ntmps16
      go_wp2_with fail
      go_ret
      exact ⟨rfl, bel⟩
end Go.Proofs.Ytdopbdcfompodaa
