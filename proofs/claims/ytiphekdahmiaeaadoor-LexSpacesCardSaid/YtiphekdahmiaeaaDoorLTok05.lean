/-
  LexTokens and LexNames return true. Their arguments: any.
-/
import Derived.Test.YtiphekdahmiaeaaDoorSame05
namespace Go.Proofs.YtiphekdahmiaeaaDoor
open Go Go.RowKit
set_option linter.unusedVariables false

theorem lexF_len : ∀ (f : Nat) (l : List UInt8) (p : Nat) (ts : List TokL), lexF f l p = .ok ts → ts.length ≤ l.length
  | _, [], _, ts, h => by rw [lexF.eq_def] at h; simp at h; subst h; simp
  | 0, _ :: _, _, ts, h => by rw [lexF] at h; cases h
  | f + 1, c :: r, p, ts, h => by
    rw [lexF] at h
    cases hs : stepL (c :: r) with
    | none => rw [hs] at h; cases h
    | some xk =>
      obtain ⟨x, k⟩ := xk
      have hk := step_pos hs
      rw [hs] at h
      have hd : ((c :: r).drop k).length = (c :: r).length - k := List.length_drop
      cases x with
      | none => have := lexF_len f _ _ ts h; omega
      | some t =>
        obtain ⟨kd, n, tx⟩ := t
        simp only at h
        cases hr : lexF f ((c :: r).drop k) (p + k) with
        | bad q => rw [hr] at h; cases h
        | ok us =>
          rw [hr] at h
          have := lexF_len f _ _ us hr
          simp only [Res.join] at h
          injection h with h
          subst h
          simp only [List.length_append, List.length_cons, List.length_nil] at hd hk ⊢
          omega
def tsOf : Res → List TokL | .bad _ => [] | .ok ts => ts
def nOf (n : Nat) : Res → Int | .bad p => p | .ok _ => n
def eOf : Res → Int | .bad _ => 2 | .ok _ => 0
def TokU (r : Res) (n : Nat) (w : World) (e : Ending) (w' : World) : Prop := ∃ a c, e = .returned (.tuple #[.slice a (tsOf r).length c, .int .i64 (nOf n r), .int .i64 (eOf r)]) ∧ ToksAt w' a (tsOf r) ∧ Below w.heap.size w w' ∧ (a = none → (tsOf r).length = 0)
theorem tok_u {r : Res} {n : Nat} {w : World} {e : Ending} {w' : World} (h : TokPost r n w e w') : TokU r n w e w' := by
  cases r with
  | bad p =>
    obtain ⟨rfl, hb⟩ := h
    exact ⟨none, 0, rfl, fun i t hi => by simp [tsOf] at hi, hb, fun _ => rfl⟩
  | ok ts =>
    obtain ⟨v, rfl, ho, hb⟩ := h
    obtain ⟨a, c, rfl, hT, hn⟩ := toks_own ho
    exact ⟨a, c, rfl, hT, hb, hn⟩
theorem tsOf_len (s : ByteArray) : (tsOf (lexT (bl s) 0)).length ≤ s.size := by
  cases h : lexT (bl s) 0 with
  | bad p => simp [tsOf]
  | ok ts => have := lexF_len _ _ _ ts h; rw [bl_len] at this; exact this
theorem tokens_u (s : ByteArray) (hs : s.size ≤ 1000000) (w : World) (hN : NamesIs w) (hw0 : 0 < w.heap.size) : Calls Tryd.prog 14 #[.string s] w (TokU (lexT (bl s) 0) s.size w) := (tokens_any s hs w hN hw0).mono fun _ _ h => tok_u h
theorem rtokens_u (s : ByteArray) (hs : s.size ≤ 1000000) (w : World) : Calls Tryd.prog 15 #[.string s] w (TokU (lexT (bl s) 0) s.size w) := (rtokens_any s hs w).mono fun _ _ h => tok_u h

set_option maxRecDepth 100000 in
set_option maxHeartbeats 1000000 in
theorem ltokens_walk (s : ByteArray) (a : Option Addr) (n c : Nat) (z : List Int) (w : World) (hN : NamesIs w) (hw0 : 0 < w.heap.size) (hs : s.size ≤ maxLen) (hz : IsRow .i64 w a n c z) :
    Calls Tryd.prog 3 #[.string s, .slice a n c] w fun e w' => e = .returned (.bool true) ∧ Below w.heap.size w w' := by
  unfold maxLen at hs
  have hnm := hz.most
  by_cases h200 : s.size ≤ 200
  · have d1 : decide (200 < s.size) = false := by simp; omega
    have d1' : decide ((200 : Int) < (s.size : Int)) = false := by simp; omega
    have KL := light_any w a n c
    by_cases h120 : n ≤ 120
    · rw [decide_eq_true h120] at KL
      have KL := Lib.hid KL
      have KN := Lib.hid (tape_new w a n c z hz (by omega))
      clear hz
      go_enter Tryd.func3, Tryd.ntmps3
      go_wp2_with fail
      refine KL.out.mono ?_
      rintro e w' ⟨rfl, rfl⟩
      go_wp2_with fail
      refine KN.out.mono ?_
      rintro e w1 ⟨rfl, hs1, b1⟩
      have KLN := Lib.hid (line_any w1 w.heap.size w.heap.size a n c (fun i => z.getD i 0) ⟨0, hs1⟩)
      clear hs1 KN KL
      go_wp2_with fail
      refine KLN.out.mono ?_
      rintro e w2 ⟨L, hL, rfl, _, g2⟩
      have b2 : Below w.heap.size w w2 := b1.trans (below_of_grown g2 b1.size (fun k e => by have := Option.some.inj e; omega))
      have hsz2 := b2.size
      clear b1 g2 KLN
      go_wp2_with fail
      refine (tokens_u s (by omega) w2 (hN.below b2 hw0) (by omega)).mono ?_
      rintro e w3 ⟨a3, c3, rfl, t3, b3', _⟩
      have b3 := b2.trans (b3'.mono hsz2)
      have T3 := Lib.hid t3
      have hsz3 := b3.size
      have hl1 := tsOf_len s
      clear t3 b3' b2
      go_wp2_with fail
      refine (rtokens_u s (by omega) w3).mono ?_
      rintro e w4 ⟨a4, c4, rfl, t4, b4', _⟩
      have b4 := b3.trans (b4'.mono hsz3)
      have T3b := Lib.hid (T3.out.below b4')
      have T4 := Lib.hid t4
      have hsz4 := b4.size
      clear t4 b4' b3 T3
      generalize lexT (bl s) 0 = r1 at *
      go_wp2_with fail
      refine (tokens_u L (by omega) w4 (hN.below b4 hw0) (by omega)).mono ?_
      rintro e w5 ⟨a5, c5, rfl, t5, b5', _⟩
      have b5 := b4.trans (b5'.mono hsz4)
      have T3c := Lib.hid (T3b.out.below b5')
      have T4c := Lib.hid (T4.out.below b5')
      have T5 := Lib.hid t5
      have hsz5 := b5.size
      have hl2 := tsOf_len L
      clear t5 b5' b4 T3b T4
      go_wp2_with fail
      refine (rtokens_u L (by omega) w5).mono ?_
      rintro e w6 ⟨a6, c6, rfl, t6, b6', _⟩
      have b6 := b5.trans (b6'.mono hsz5)
      have T3d := Lib.hid (T3c.out.below b6')
      have T4d := Lib.hid (T4c.out.below b6')
      have T5d := Lib.hid (T5.out.below b6')
      have T6 := Lib.hid t6
      have hsz6 := b6.size
      clear t6 b6' b5 T3c T4c T5
      generalize lexT (bl L) 0 = r2 at *
      go_wp2_with fail
      refine (awake_true w6 (hN.below b6 hw0) (by omega)).mono ?_
      rintro e w7 ⟨rfl, b7'⟩
      have b7 := b6.trans (b7'.mono hsz6)
      have KS1 := Lib.hid (same_any a3 a4 c3 c4 (tsOf r1) w7 (T3d.out.below b7') (T4d.out.below b7') (by omega))
      have T5e := Lib.hid (T5d.out.below b7')
      have T6e := Lib.hid (T6.out.below b7')
      have hsz7 := b7.size
      clear b7' b6 T3d T4d T5d T6
      generalize nOf s.size r1 = x1 at *
      generalize eOf r1 = y1 at *
      generalize nOf L.size r2 = x2 at *
      generalize eOf r2 = y2 at *
      go_wp2_with fail
      refine KS1.out.mono ?_
      rintro e w8 ⟨rfl, b8'⟩
      have b8 := b7.trans (b8'.mono hsz7)
      have KS2 := Lib.hid (same_any a5 a6 c5 c6 (tsOf r2) w8 (T5e.out.below b8') (T6e.out.below b8') (by omega))
      have hsz8 := b8.size
      clear b8' b7 KS1 T5e T6e
      go_wp2_with fail
      refine KS2.out.mono ?_
      rintro e w9 ⟨rfl, b9'⟩
      have b9 := b8.trans (b9'.mono hsz8)
      clear b9' b8 KS2
      go_wp2_with fail
      go_ret
      exact ⟨rfl, b9⟩
    · rw [decide_eq_false h120] at KL
      have KL := Lib.hid KL
      have KA := Lib.hid (awake_true w hN hw0)
      clear hz
      go_enter Tryd.func3, Tryd.ntmps3
      go_wp2_with fail
      refine KL.out.mono ?_
      rintro e w' ⟨rfl, rfl⟩
      go_wp2_with fail
      refine KA.out.mono ?_
      rintro e w1 ⟨rfl, b1⟩
      go_wp2_with fail
      go_ret
      exact ⟨rfl, b1⟩
  · have d1 : decide (200 < s.size) = true := by simp; omega
    have d1' : decide ((200 : Int) < (s.size : Int)) = true := by simp; omega
    have KA := Lib.hid (awake_true w hN hw0)
    clear hz
    go_enter Tryd.func3, Tryd.ntmps3
    go_wp2_with fail
    refine KA.out.mono ?_
    rintro e w1 ⟨rfl, b1⟩
    go_wp2_with fail
    go_ret
    exact ⟨rfl, b1⟩

def nam27C : Array Value := #[.string ⟨#[73, 70]⟩, .string ⟨#[71, 79, 84, 79]⟩, .string ⟨#[87, 72, 73, 76, 69]⟩, .string ⟨#[68, 79]⟩, .string ⟨#[69, 78, 68]⟩, .string ⟨#[69, 81]⟩, .string ⟨#[78, 69]⟩, .string ⟨#[71, 84]⟩, .string ⟨#[71, 69]⟩, .string ⟨#[76, 84]⟩, .string ⟨#[76, 69]⟩, .string ⟨#[65, 78, 68]⟩, .string ⟨#[79, 82]⟩, .string ⟨#[88, 79, 82]⟩, .string ⟨#[77, 79, 68]⟩, .string ⟨#[83, 73, 78]⟩, .string ⟨#[67, 79, 83]⟩, .string ⟨#[84, 65, 78]⟩, .string ⟨#[65, 84, 65, 78]⟩, .string ⟨#[83, 81, 82, 84]⟩, .string ⟨#[65, 66, 83]⟩, .string ⟨#[82, 79, 85, 78, 68]⟩, .string ⟨#[70, 73, 88]⟩, .string ⟨#[70, 85, 80]⟩, .string ⟨#[84, 72]⟩, .string ⟨#[105, 102]⟩, .string ⟨#[69, 78, 68, 88]⟩]
theorem nam27_at (i : Nat) (h : i < 27) : ∃ B : ByteArray, nam27C[i]? = some (.string B) ∧ B.size ≤ 5 ∧ isName (bl B ++ [49]) = false := by
  match i, h with
  | 0, _ => exact ⟨_, rfl, by decide, by decide⟩
  | 1, _ => exact ⟨_, rfl, by decide, by decide⟩
  | 2, _ => exact ⟨_, rfl, by decide, by decide⟩
  | 3, _ => exact ⟨_, rfl, by decide, by decide⟩
  | 4, _ => exact ⟨_, rfl, by decide, by decide⟩
  | 5, _ => exact ⟨_, rfl, by decide, by decide⟩
  | 6, _ => exact ⟨_, rfl, by decide, by decide⟩
  | 7, _ => exact ⟨_, rfl, by decide, by decide⟩
  | 8, _ => exact ⟨_, rfl, by decide, by decide⟩
  | 9, _ => exact ⟨_, rfl, by decide, by decide⟩
  | 10, _ => exact ⟨_, rfl, by decide, by decide⟩
  | 11, _ => exact ⟨_, rfl, by decide, by decide⟩
  | 12, _ => exact ⟨_, rfl, by decide, by decide⟩
  | 13, _ => exact ⟨_, rfl, by decide, by decide⟩
  | 14, _ => exact ⟨_, rfl, by decide, by decide⟩
  | 15, _ => exact ⟨_, rfl, by decide, by decide⟩
  | 16, _ => exact ⟨_, rfl, by decide, by decide⟩
  | 17, _ => exact ⟨_, rfl, by decide, by decide⟩
  | 18, _ => exact ⟨_, rfl, by decide, by decide⟩
  | 19, _ => exact ⟨_, rfl, by decide, by decide⟩
  | 20, _ => exact ⟨_, rfl, by decide, by decide⟩
  | 21, _ => exact ⟨_, rfl, by decide, by decide⟩
  | 22, _ => exact ⟨_, rfl, by decide, by decide⟩
  | 23, _ => exact ⟨_, rfl, by decide, by decide⟩
  | 24, _ => exact ⟨_, rfl, by decide, by decide⟩
  | 25, _ => exact ⟨_, rfl, by decide, by decide⟩
  | 26, _ => exact ⟨_, rfl, by decide, by decide⟩
  | n + 27, h => exact absurd h (by omega)
set_option maxRecDepth 100000 in
set_option maxHeartbeats 1000000 in
theorem lnames_walk (s : ByteArray) (k : Int) (w : World) (hN : NamesIs w) (hw0 : 0 < w.heap.size) (hs : s.size ≤ maxLen) :
    Calls Tryd.prog 4 #[.string s, .int .i64 k] w fun e w' => e = .returned (.bool true) ∧ Below w.heap.size w w' := by
  unfold maxLen at hs
  by_cases h100 : s.size ≤ 100
  · have d1 : decide (100 < s.size) = false := by simp; omega
    have d1' : decide ((100 : Int) < (s.size : Int)) = false := by simp; omega
    obtain ⟨i0, hi, hz0, hz1, hz2⟩ := info_parts infoStr5
    have b1 := (Below.refl w.heap.size w).alloc (Nat.le_refl _) (.cells nam27C 9)
    have hp1 := Blk.new w 9 nam27C
    have hr1 := Int.emod_nonneg k (show (27 : Int) ≠ 0 by omega)
    have hr2 := Int.emod_lt_of_pos k (show (0 : Int) < 27 by omega)
    have KM := Lib.hid (fun W => mod_any k 27 W (by omega) (by omega))
    generalize k % 27 = kk at *
    obtain ⟨B, hB, hB5, hB1⟩ := nam27_at kk.toNat (by omega)
    have cB := hp1.cell' kk.toNat hB
    have HB1 := Lib.hid hB1
    have hgt : ¬ B.size + (⟨#[49]⟩ : ByteArray).size > 9223372036854775807 := by have : (⟨#[49]⟩ : ByteArray).size = 1 := rfl; omega
    clear hB hB1
    obtain ⟨W1, eW1⟩ : ∃ W1, w.alloc (.cells nam27C 9) = W1 := ⟨_, rfl⟩
    rw [eW1] at b1 cB
    have EW := Lib.hid eW1
    clear eW1 hp1
    go_enter Tryd.func4, Tryd.ntmps4
    go_wp2_with ((with_reducible refine go_buildSlice 34 9 27 _ nam27C i0 _ Tryd.underlying34 hi hz0 (by rw [hz1]; decide) (by rw [hz1]; decide) (by rw [hz1]; with_unfolding_all kernel_rfl) ?_); rw [EW.out])
    refine (KM.out _).mono ?_
    rintro e w' ⟨rfl, rfl⟩
    go_wp2_with fail
    refine (awake_true _ (hN.below b1 hw0) (by have := b1.size; omega)).mono ?_
    rintro e w2 ⟨rfl, b2'⟩
    have b2 := b1.trans (b2'.mono b1.size)
    have hN2 := hN.below b2 hw0
    have K1 := Lib.hid (name_any s w2 hN2)
    have K2 := Lib.hid (rname_any s w2)
    have hsz2 := b2.size
    clear b2' b1 EW cB
    generalize isName (bl s) = q1 at *
    go_wp2_with fail
    refine K1.out.mono ?_
    rintro e w' ⟨rfl, rfl⟩
    go_wp2_with fail
    refine K2.out.mono ?_
    rintro e w3 ⟨rfl, b3'⟩
    have b3 := b2.trans (b3'.mono hsz2)
    have hN3 := hN.below b3 hw0
    have K3 := Lib.hid (name_any B w3 hN3)
    have K4 := Lib.hid (rname_any B w3)
    have hsz3 := b3.size
    clear b3' b2 K1 K2 hN2
    generalize isName (bl B) = q2 at *
    cases q1
    all_goals
      go_wp2_with fail
      refine K3.out.mono ?_
      rintro e w' ⟨rfl, rfl⟩
      go_wp2_with fail
      refine K4.out.mono ?_
      rintro e w4 ⟨rfl, b4'⟩
      have b4 := b3.trans (b4'.mono hsz3)
      have hN4 := hN.below b4 hw0
      have K5 := name_any (B ++ ⟨#[49]⟩) w4 hN4
      rw [bl_append, show bl ⟨#[49]⟩ = [49] from rfl, HB1.out] at K5
      have K5 := Lib.hid K5
      have K6 := name_any ⟨#[]⟩ w4 hN4
      rw [show isName (bl ⟨#[]⟩) = false by decide] at K6
      have K6 := Lib.hid K6
      clear b4'
      cases q2
      all_goals
        go_wp2_with fail
        refine K5.out.mono ?_
        rintro e w' ⟨rfl, rfl⟩
        go_wp2_with fail
        refine K6.out.mono ?_
        rintro e w' ⟨rfl, rfl⟩
        go_wp2_with fail
        go_ret
        exact ⟨rfl, b4⟩
  · have d1 : decide (100 < s.size) = true := by simp; omega
    have d1' : decide ((100 : Int) < (s.size : Int)) = true := by simp; omega
    have KA := Lib.hid (awake_true w hN hw0)
    go_enter Tryd.func4, Tryd.ntmps4
    go_wp2_with fail
    refine KA.out.mono ?_
    rintro e w1 ⟨rfl, b1⟩
    go_wp2_with fail
    go_ret
    exact ⟨rfl, b1⟩
end Go.Proofs.YtiphekdahmiaeaaDoor
