/-
  tools.number: the coordinate that a word stands for. Any word.
-/
import Derived.Test.YtlpmbjgimllmgaaDoorShelfA16
import Derived.Test.YtlpmbjgimllmgaaDoorNumT16
import Derived.Test.YtlpmbjgimllmgaaDoorEnv16
import Derived.Test.YtlpmbjgimllmgaaDoorTool16
namespace Go.Proofs.YtlpmbjgimllmgaaDoor
open Go Go.RowKit
set_option linter.unusedVariables false

/-- A number and whether it is one. -/
def NumPost (o : Option Int) (w : World) (e : Ending) (w' : World) : Prop :=
  ∃ n, e = .returned (.tuple #[.int .i64 n, .bool o.isSome]) ∧ (∀ z, o = some z → n = z) ∧ Below w.heap.size w w'
theorem NumPost.bad {w w' : World} {o : Option Int} (n : Int) (ho : o = none) (hb : Below w.heap.size w w') {e : Ending} (he : e = .returned (.tuple #[.int .i64 n, .bool false])) : NumPost o w e w' := by
  subst ho
  exact ⟨n, he, fun z h => (by cases h), hb⟩
theorem NumPost.good {w w' : World} {o : Option Int} (n : Int) (ho : o = some n) (hb : Below w.heap.size w w') {e : Ending} (he : e = .returned (.tuple #[.int .i64 n, .bool true])) : NumPost o w e w' := by
  subst ho
  exact ⟨n, he, fun z h => (by injection h), hb⟩
theorem atoi_okB (s : ByteArray) (hs : s.size ≤ 1000000) (v : Int) (h : Lib.atoiAll (bl s) = .ok v) (w : World) : Calls Tryd.prog 48 #[.string s] w fun e w' => e = .returned (.tuple #[.int .i64 v, .nilIface]) ∧ Below w.heap.size w w' := by
  refine (Tryd.strconv_Atoi_ok s (by omega) v h w).mono ?_
  rintro e w' ⟨rfl, rfl | ⟨t, rfl⟩⟩
  · exact ⟨rfl, Below.refl _ _⟩
  · exact ⟨rfl, Lib.bytesWorld_below _ _ _⟩
theorem atoi_bad (s : ByteArray) (hs : s.size ≤ 1000000) (h : ∀ v, Lib.atoiAll (bl s) ≠ .ok v) (w : World) (hE : Env w) : Calls Tryd.prog 48 #[.string s] w fun e w' => ∃ n te pe, e = .returned (.tuple #[.int .i64 n, .iface te pe]) ∧ Below w.heap.size w w' := by
  rcases hr : Lib.atoiAll (bl s) with v | _ | _
  · exact absurd hr (h v)
  · obtain ⟨ev, hv, hev⟩ := hE.es
    refine (Any.strconv_Atoi_syntax Tryd.laysC172 s (by omega) hr ev w hv hev).mono ?_
    rintro e w' ⟨N, rfl, _, _, hb⟩
    exact ⟨_, _, _, rfl, hb⟩
  · obtain ⟨ev, hv, hev⟩ := hE.er
    refine (Tryd.strconv_Atoi_range s (by omega) hr ev w hv hev).mono ?_
    rintro e w' ⟨N, rfl, _, _, hb⟩
    exact ⟨_, _, _, rfl, hb⟩
set_option maxRecDepth 100000 in
set_option maxHeartbeats 1000000 in
theorem number_any (s : ByteArray) (hs : s.size ≤ 1000000) (w : World) (hE : Env w) : Calls Tryd.prog 44 #[.string s] w (NumPost (readF (bl s)) w) := by
  have hlow := hE.low
  have HE := Lib.hid hE
  by_cases hok : ∃ v, Lib.atoiAll (bl s) = .ok v
  · obtain ⟨v, hv⟩ := hok
    have KA := Lib.hid (atoi_okB s hs v hv w)
    have KC := fun W => coord_any v W
    have hbd := Lib.atoiAll_bounds hv
    by_cases hin : inC v
    · simp only [decide_eq_true hin] at KC
      have KC := Lib.hid KC
      have KI := Lib.hid (fun W hW => itoa_run v (by have : (10 : Nat) ^ 19 = 10000000000000000000 := by decide
                                                     omega) hbd W hW)
      by_cases he : Lib.itoa v = bl s
      · have R := Lib.hid (read_iff.2 ⟨hin, he⟩)
        have hms : mkB (Lib.itoa v) = s := by rw [he, mkB_bl]
        have se : (s.toList == s.toList) = true := by simp
        rw [hms] at KI
        clear hv hin he hms hE
        go_enter Tryd.func44, Tryd.ntmps44
        go_wp2_with fail
        refine KA.out.mono ?_
        rintro e w1 ⟨rfl, b1⟩
        have BEL1 := Lib.hid b1
        have KI1 := Lib.hid (KI.out w1 (HE.out.below b1 hlow))
        clear b1 KA KI
        go_wp2_with fail
        refine (KC.out _).mono ?_
        rintro e w' ⟨rfl, rfl⟩
        go_wp2_with fail
        refine KI1.out.mono ?_
        rintro e w2 ⟨rfl, b2⟩
        go_wp2_with fail
        go_ret2
        exact NumPost.good v R.out (BEL1.out.trans (b2.mono BEL1.out.size)) rfl
      · have R : readF (bl s) = none := by
          cases hr : readF (bl s) with
          | none => rfl
          | some z =>
            obtain ⟨h1, h2⟩ := read_iff.1 hr
            have h3 := atoi_itoa h1
            rw [h2, hv] at h3
            injection h3 with h3
            exact absurd (h3 ▸ h2) he
        have R := Lib.hid R
        have se : ((mkB (Lib.itoa v)).toList == s.toList) = false := by
          rw [toList_bl, toList_bl, bl_mkB]
          exact beq_eq_false_iff_ne.2 he
        clear hv hin he hE
        go_enter Tryd.func44, Tryd.ntmps44
        go_wp2_with fail
        refine KA.out.mono ?_
        rintro e w1 ⟨rfl, b1⟩
        have BEL1 := Lib.hid b1
        have KI1 := Lib.hid (KI.out w1 (HE.out.below b1 hlow))
        clear b1 KA KI
        go_wp2_with fail
        refine (KC.out _).mono ?_
        rintro e w' ⟨rfl, rfl⟩
        go_wp2_with fail
        refine KI1.out.mono ?_
        rintro e w2 ⟨rfl, b2⟩
        go_wp2_with fail
        go_ret2
        exact NumPost.bad v R.out (BEL1.out.trans (b2.mono BEL1.out.size)) rfl
    · simp only [decide_eq_false hin] at KC
      have KC := Lib.hid KC
      have R : readF (bl s) = none := by
        cases hr : readF (bl s) with
        | none => rfl
        | some z =>
          obtain ⟨h1, h2⟩ := read_iff.1 hr
          have h3 := atoi_itoa h1
          rw [h2, hv] at h3
          injection h3 with h3
          exact absurd (h3 ▸ h1) hin
      have R := Lib.hid R
      clear hv hin hE
      go_enter Tryd.func44, Tryd.ntmps44
      go_wp2_with fail
      refine KA.out.mono ?_
      rintro e w1 ⟨rfl, b1⟩
      have BEL1 := Lib.hid b1
      clear b1 KA
      go_wp2_with fail
      refine (KC.out _).mono ?_
      rintro e w' ⟨rfl, rfl⟩
      go_wp2_with fail
      go_ret2
      exact NumPost.bad v R.out BEL1.out rfl
  · have R : readF (bl s) = none := by
      cases hr : readF (bl s) with
      | none => rfl
      | some z =>
        obtain ⟨h1, h2⟩ := read_iff.1 hr
        have h3 := atoi_itoa h1
        rw [h2] at h3
        exact absurd ⟨z, h3⟩ hok
    have R := Lib.hid R
    have KA := Lib.hid (atoi_bad s hs (fun v h => hok ⟨v, h⟩) w hE)
    clear hok hE
    go_enter Tryd.func44, Tryd.ntmps44
    go_wp2_with fail
    refine KA.out.mono ?_
    rintro e w1 ⟨n, te, pe, rfl, b1⟩
    have BEL1 := Lib.hid b1
    clear b1 KA
    go_wp2_with fail
    go_ret2
    exact NumPost.bad n R.out BEL1.out rfl
end Go.Proofs.YtlpmbjgimllmgaaDoor
