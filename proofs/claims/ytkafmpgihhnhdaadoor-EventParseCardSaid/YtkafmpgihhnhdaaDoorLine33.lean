/-
  event.line: the event of a line. Any line.
-/
import Derived.Test.YtkafmpgihhnhdaaDoorKinds33
namespace Go.Proofs.YtkafmpgihhnhdaaDoor
open Go Go.RowKit
set_option linter.unusedVariables false

theorem split_run (c : UInt8) (s : ByteArray) (hs : s.size ≤ 1000000) (w : World) (hE : Env w) : Calls Tryd.prog 38 #[.string s, .string ⟨#[c]⟩] w fun e w' =>
    e = .returned (.slice (some ⟨w.heap.size, 0, none⟩) (splitL c (bl s)).length (splitL c (bl s)).length) ∧ w' = w.alloc (.cells (((splitL c (bl s)).map mkB).map Value.string).toArray 9) := by
  obtain ⟨m, hm⟩ := hE.max
  have h := Tryd.strings_Split s ⟨#[c]⟩ m w (by omega) hm (Nat.le_refl 1)
  have hl := Lib.splitB_all ⟨#[c]⟩ (Nat.le_refl 1) 0 (Lib.countB s ⟨#[c]⟩) s rfl
  rw [splitB_one] at h hl
  rw [← hl, List.length_map] at h
  exact h
theorem split3 {l a b c : List UInt8} (h : splitL 32 l = [a, b, c]) : a.length ≤ l.length ∧ b.length ≤ l.length ∧ c.length ≤ l.length := by
  obtain ⟨_, h1⟩ := splitL_cons h
  rcases h1 with ⟨h1, _⟩ | ⟨r, e1, hr⟩
  · cases h1
  obtain ⟨_, h2⟩ := splitL_cons hr
  rcases h2 with ⟨h2, _⟩ | ⟨r2, e2, hr2⟩
  · cases h2
  obtain ⟨_, h3⟩ := splitL_cons hr2
  rcases h3 with ⟨_, e3⟩ | ⟨r3, e3, hr3⟩
  · subst e3
    rw [e1, e2]
    simp
    omega
  · exact absurd hr3 (splitL_ne _ _)
theorem line_of {l a b c : List UInt8} (h : splitL 32 l = [a, b, c]) : lineF l = if ((numF a).isSome && (numF c).isSome && decide (0 < kindN 13 b)) = true then some ⟨(numF a).getD 0, kindN 13 b, (numF c).getD 0⟩ else none := by
  unfold lineF
  rw [h]
  simp only
  cases numF a <;> cases numF c <;> by_cases hk : 0 < kindN 13 b <;> simp [hk]
theorem line_no {l : List UInt8} (h : (splitL 32 l).length ≠ 3) : lineF l = none := by
  unfold lineF
  split
  · rename_i a b c e
    rw [e] at h
    exact absurd rfl h
  · rfl
/-- The event and whether the line has the form of an event. -/
def LinePost (l : List UInt8) (w : World) (e : Ending) (w' : World) : Prop :=
  ∃ ev ok, e = .returned (.tuple #[.agg (evC ev).toArray, .bool ok]) ∧ lineF l = (if ok = true then some ev else none) ∧ Below w.heap.size w w'
theorem LinePost.mk {l : List UInt8} {w w' : World} (ev : Ev) (ok : Bool) (h : lineF l = (if ok = true then some ev else none)) (hb : Below w.heap.size w w') {e : Ending} (he : e = .returned (.tuple #[.agg (evC ev).toArray, .bool ok])) : LinePost l w e w' := ⟨ev, ok, he, h, hb⟩
set_option maxRecDepth 100000 in
set_option maxHeartbeats 1000000 in
theorem line_any (s : ByteArray) (hs : s.size ≤ 1000000) (b : Nat) (w : World) (hE : Env w) (hK : KindAt w b 13) :
    Calls Tryd.prog 32 #[.string s, .map (some b)] w (LinePost (bl s) w) := by
  have hlow := hE.low
  have hbl := hK.lt
  have b1 := (Below.refl w.heap.size w).alloc (Nat.le_refl _) (.cells #[.int .i64 0, .int .i64 0, .int .i64 0] 28)
  have B1 := Blk.new w 28 #[.int .i64 0, .int .i64 0, .int .i64 0]
  have hsz1 : (w.alloc (.cells #[.int .i64 0, .int .i64 0, .int .i64 0] 28)).heap.size = w.heap.size + 1 := Array.size_push _
  have KS := split_run 32 s hs (w.alloc (.cells #[.int .i64 0, .int .i64 0, .int .i64 0] 28)) (hE.below b1 hlow)
  have hE1 := hE.below b1 hlow
  have hK1 := hK.below b1 hbl
  rw [hsz1] at KS
  obtain ⟨w1, hw1⟩ : ∃ w1, w.alloc (.cells #[.int .i64 0, .int .i64 0, .int .i64 0] 28) = w1 := ⟨_, rfl⟩
  rw [hw1] at b1 B1 hsz1 KS hE1 hK1
  obtain ⟨L, hL⟩ : ∃ L, splitL 32 (bl s) = L := ⟨_, rfl⟩
  have hLn : L.length ≤ s.size + 1 := by rw [← hL, ← bl_len s]; exact splitL_len 32 (bl s)
  rw [hL] at KS
  obtain ⟨w2, hw2⟩ : ∃ w2, w1.alloc (.cells ((L.map mkB).map Value.string).toArray 9) = w2 := ⟨_, rfl⟩
  rw [hw2] at KS
  have b12 : Below w1.heap.size w1 w2 := by rw [← hw2]; exact (Below.refl _ _).alloc (Nat.le_refl _) _
  have b2 : Below w.heap.size w w2 := b1.trans (b12.mono (by omega))
  have B2 := B1.below b12 (by omega)
  have hE2 := hE1.below b12 (by omega)
  have hK2 := hK1.below b12 (by omega)
  have W2 : Blk w2 (w.heap.size + 1) 9 ((L.map mkB).map Value.string).toArray := by
    rw [← hw2, ← hsz1]
    exact Blk.new w1 _ _
  have KS := Lib.hid KS
  have hsz2 := b12.size
  clear hE hK hE1 hK1 B1 b1 b12 hw2
  by_cases h3 : L.length = 3
  · obtain ⟨A, B, C, hABC⟩ : ∃ A B C, L = [A, B, C] := by
      match L, h3 with
      | [A, B, C], _ => exact ⟨A, B, C, rfl⟩
    subst hABC
    have R := line_of hL
    obtain ⟨s1, s2, s3⟩ := split3 hL
    rw [bl_len] at s1 s2 s3
    have KA := number_any (mkB A) (by rw [mkB_size]; omega) w2
    have KC := fun W => number_any (mkB C) (by rw [mkB_size]; omega) W
    rw [bl_mkB] at KA
    simp only [bl_mkB] at KC
    have c0 := W2.cell 0
    have c1 := W2.cell 1
    have c2 := W2.cell 2
    have c0 : w2.cell? ⟨w.heap.size + 1, 0, none⟩ = some (.string (mkB A)) := c0
    have HW2 := Lib.hid W2
    have HK2 := Lib.hid hK2
    have HB2 := Lib.hid B2
    have hmax : (mkB B).size ≤ maxLen := by rw [mkB_size]; unfold maxLen; omega
    have HL := Lib.hid (fun (W : World) (h : KindAt W b 13) => h.look Tryd.underlying9 Tryd.underlying58 (show (zeroValue 3).run Tryd.prog W = .ok (.int .i64 0) W from Tryd.zeroValue3 W) (mkB B) hmax)
    have KA := Lib.hid KA
    have KC := Lib.hid KC
    have hlt2 := W2.lt
    clear c1 c2 hE2 hK2 W2 B2 hmax hL
    go_enter Tryd.func32, Tryd.ntmps32
    go_wp2_with fail
    try rw [hw1]
    refine KS.out.mono ?_
    rintro e w' ⟨rfl, rfl⟩
    go_wp2_with fail
    refine KA.out.mono ?_
    rintro e w3 ⟨rfl, b3⟩
    have b23 := b2.trans (b3.mono (by omega))
    have W3 := HW2.out.below b3 hlt2
    have c2 : w3.cell? ⟨w.heap.size + 1, 2, none⟩ = some (.string (mkB C)) := W3.cell 2
    have K3 := HK2.out.below b3 (by omega)
    have B3 := HB2.out.below b3 (by omega)
    have HK3 := Lib.hid K3
    have HB3 := Lib.hid B3
    have HW3 := Lib.hid W3
    have hsz3 := b3.size
    have BEL3 := Lib.hid b23
    clear b3 b23 W3 K3 B3 HW2 HK2 HB2 b2 c0 KA KS
    unfold numV
    go_wp2_with fail
    refine (KC.out w3).mono ?_
    rintro e w4 ⟨rfl, b4⟩
    have b24 := BEL3.out.trans (b4.mono (by omega))
    have W4 := HW3.out.below b4 (by omega)
    have c1 : w4.cell? ⟨w.heap.size + 1, 1, none⟩ = some (.string (mkB B)) := W4.cell 1
    have K4 := HK3.out.below b4 (by omega)
    have B4 := HB3.out.below b4 (by omega)
    have HB4 := Lib.hid B4
    have lk := HL.out w4 K4
    rw [bl_mkB] at lk
    have BEL4 := Lib.hid b24
    clear b4 b24 W4 K4 B4 HW3 HK3 HB3 c2 KC BEL3
    unfold numV
    obtain ⟨xa, hxa⟩ : ∃ x, (numF A).getD 0 = x := ⟨_, rfl⟩
    obtain ⟨oa, hoa⟩ : ∃ x, (numF A).isSome = x := ⟨_, rfl⟩
    obtain ⟨xc, hxc⟩ : ∃ x, (numF C).getD 0 = x := ⟨_, rfl⟩
    obtain ⟨oc, hoc⟩ : ∃ x, (numF C).isSome = x := ⟨_, rfl⟩
    obtain ⟨kd, hkd⟩ : ∃ x, kindN 13 B = x := ⟨_, rfl⟩
    rw [hxa, hoa, hxc, hoc, hkd] at R
    rw [hkd] at lk
    simp only [hxa, hoa, hxc, hoc]
    have R := Lib.hid R
    clear hxa hoa hxc hoc hkd
    have FIN := Lib.hid (below_row BEL4.out (g := w.heap.size) (Nat.le_refl _) #[.int .i64 xa, .int .i64 kd, .int .i64 xc])
    have BB := HB4.out.setRow #[.int .i64 xa, .int .i64 kd, .int .i64 xc]
    have q0 : (w4.setRow w.heap.size #[.int .i64 xa, .int .i64 kd, .int .i64 xc]).cell? ⟨w.heap.size, 0, none⟩ = some (.int .i64 xa) := BB.cell 0
    have q1 : (w4.setRow w.heap.size #[.int .i64 xa, .int .i64 kd, .int .i64 xc]).cell? ⟨w.heap.size, 1, none⟩ = some (.int .i64 kd) := BB.cell 1
    have q2 : (w4.setRow w.heap.size #[.int .i64 xa, .int .i64 kd, .int .i64 xc]).cell? ⟨w.heap.size, 2, none⟩ = some (.int .i64 xc) := BB.cell 2
    clear BB BEL4
    go_wp2_with (first
      | ((with_reducible refine go_built 28 _ #[.int .i64 xa, .int .i64 kd, .int .i64 xc] (by with_unfolding_all kernel_rfl) ?_))
      | ((with_reducible refine go_store_row 28 (.tmp 4) (.tmp 40) w.heap.size #[.int .i64 xa, .int .i64 kd, .int .i64 xc] 28 #[.int .i64 0, .int .i64 0, .int .i64 0] (by with_unfolding_all rfl) (by with_unfolding_all rfl) (by with_unfolding_all exact HB4.out) (by with_unfolding_all kernel_rfl) (by with_unfolding_all rfl) (by with_unfolding_all rfl) ?_)))
    · refine bodyPost_ret (v := .tuple #[.agg #[.int .i64 xa, .int .i64 kd, .int .i64 xc], .bool (decide (0 < kd))]) (by simp [results, Tryd.results32, go_sem, q0, q1, q2]) rfl ?_
      exact LinePost.mk ⟨xa, kd, xc⟩ (decide (0 < kd)) (by rw [R.out, show oa = true by assumption, show oc = true by assumption]; simp) FIN.out rfl
    · refine bodyPost_ret (v := .tuple #[.agg #[.int .i64 xa, .int .i64 kd, .int .i64 xc], .bool false]) (by simp [results, Tryd.results32, go_sem, q0, q1, q2]) rfl ?_
      exact LinePost.mk ⟨xa, kd, xc⟩ false (by rw [R.out, show oc = false from Bool.eq_false_iff.2 (by assumption)]; simp) FIN.out rfl
    · refine bodyPost_ret (v := .tuple #[.agg #[.int .i64 xa, .int .i64 kd, .int .i64 xc], .bool false]) (by simp [results, Tryd.results32, go_sem, q0, q1, q2]) rfl ?_
      exact LinePost.mk ⟨xa, kd, xc⟩ false (by rw [R.out, show oa = false from Bool.eq_false_iff.2 (by assumption)]; simp) FIN.out rfl
  · have R := Lib.hid (line_no (l := bl s) (by rw [hL]; exact h3))
    have d3 : (((L.length : Nat) : Int) != 3) = true := bne_iff_ne.2 (by omega)
    have B2H := Lib.hid B2
    have FIN := Lib.hid (below_row b2 (g := w.heap.size) (Nat.le_refl _) #[.int .i64 0, .int .i64 0, .int .i64 0])
    have BB := B2.setRow #[.int .i64 0, .int .i64 0, .int .i64 0]
    clear hE2 hK2 W2 B2 b2
    go_enter Tryd.func32, Tryd.ntmps32
    go_wp2_with fail
    try rw [hw1]
    refine KS.out.mono ?_
    rintro e w' ⟨rfl, rfl⟩
    go_wp2_with (first
      | ((with_reducible refine go_built 28 _ #[.int .i64 0, .int .i64 0, .int .i64 0] (by with_unfolding_all kernel_rfl) ?_))
      | ((with_reducible refine go_store_row 28 (.tmp 4) (.tmp 17) w.heap.size #[.int .i64 0, .int .i64 0, .int .i64 0] 28 #[.int .i64 0, .int .i64 0, .int .i64 0] (by with_unfolding_all rfl) (by with_unfolding_all rfl) (by with_unfolding_all exact B2H.out) (by with_unfolding_all kernel_rfl) (by with_unfolding_all rfl) (by with_unfolding_all rfl) ?_)))
    have q0 := BB.cell 0
    have q1 := BB.cell 1
    have q2 := BB.cell 2
    simp only [show (#[Value.int .i64 0, .int .i64 0, .int .i64 0] : Array Value)[0]? = some (.int .i64 0) from rfl, show (#[Value.int .i64 0, .int .i64 0, .int .i64 0] : Array Value)[1]? = some (.int .i64 0) from rfl, show (#[Value.int .i64 0, .int .i64 0, .int .i64 0] : Array Value)[2]? = some (.int .i64 0) from rfl] at q0 q1 q2
    refine bodyPost_ret (v := .tuple #[.agg #[.int .i64 0, .int .i64 0, .int .i64 0], .bool false]) (by simp [results, Tryd.results32, go_sem, q0, q1, q2]) rfl ?_
    exact LinePost.mk ⟨0, 0, 0⟩ false (by rw [R.out]; rfl) FIN.out rfl
end Go.Proofs.YtkafmpgihhnhdaaDoor
