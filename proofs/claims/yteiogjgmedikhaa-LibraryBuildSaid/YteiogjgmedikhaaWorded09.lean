/-
  syntax.worded.
-/
import Derived.Test.YteiogjgmedikhaaBlk09
namespace Go.Proofs.Yteiogjgmedikhaa
open Go Go.RowKit
set_option linter.unusedVariables false

set_option maxRecDepth 100000 in
set_option maxHeartbeats 1000000 in
theorem worded_any (ws : List WordL) (a : Option Addr) (cap : Nat) (k : Nat → Kid) (w : World) (h : WordsAt w ws a cap k) (hl : ws.length ≤ 1000000) :
    Calls Try.prog 50 #[.slice a ws.length cap] w fun e w' => e = .returned (.bool (ws.all wordB)) ∧ Below w.heap.size w w' := by
  have H := Lib.hid h
  clear h
  go_enter Try.func50, Try.ntmps50
  go_wp2_with fail
  go_loopw [7] (fun s wr => ∃ i : Nat, i ≤ ws.length ∧ s = .int .i64 i ∧ (∀ (j : Nat) (x : WordL), j < i → ws[j]? = some x → wordB x = true) ∧ Below w.heap.size w wr)
    (fun s _ => ws.length - (intOf s).toNat)
  case atStart => exact ⟨0, by omega, rfl, fun j x h => by omega, Below.refl _ _⟩
  case round =>
    obtain ⟨i, hi, rfl, hall, br⟩ := hrel
    have HA := Lib.hid hall
    have i0 : (0 : Int) ≤ (i : Int) := by omega
    clear hall
    by_cases hlt : i < ws.length
    · have d1 : decide (i < ws.length) = true := by simpa using hlt
      have i1 : (i : Int) < (ws.length : Int) := by omega
      have hx : ws[i]? = some ws[i] := List.getElem?_eq_getElem hlt
      generalize ws[i] = x at hx
      have hr := H.out.under br
      obtain ⟨b, o, rfl, hb, hc⟩ := hr.num i x hx
      have hE := hr.tree i x hx
      have p0 := hc 0 _ rfl
      have p1 := hc 1 _ rfl
      have p2 := hc 2 _ rfl
      have p3 := hc 3 _ rfl
      rw [Nat.add_zero] at p0
      clear hc hr
      have hbad : wordB x = false → ws.all wordB = false := fun h => List.all_eq_false.2 ⟨_, List.mem_of_getElem? hx, by simp [h]⟩
      have HBAD := Lib.hid hbad
      have HX := Lib.hid hx
      have bA := Lib.hid (br.alloc br.size (.cells #[.int .i64 x.letter, .int .i64 x.x.op, .int .i64 x.x.n, .slice (k i).a x.x.kids.length (k i).cap] 48))
      have KR := Lib.hid (fun W (hb : Below wr.heap.size wr W) => right16_any x.x _ _ W (hE.under hb))
      clear hbad hx hE
      by_cases hok : 65 ≤ x.letter ∧ x.letter ≤ 90 ∧ x.letter ≠ 78 ∧ x.letter ≠ 79
      · have hwb : wordB x = rightE 16 x.x := by unfold wordB; rw [decide_eq_true hok, Bool.true_and]
        have HWB := Lib.hid hwb
        have e1 : decide (x.letter < 65) = false := decide_eq_false (by omega)
        have e2 : decide (90 < x.letter) = false := decide_eq_false (by omega)
        have e3 : (x.letter == 78) = false := by simp; omega
        have e4 : (x.letter == 79) = false := by simp; omega
        clear hwb hok
        go_wp2_with fail
        refine (KR.out _ ((Below.refl _ _).alloc (Nat.le_refl _) _)).mono ?_
        rintro e w2 ⟨rfl, b2⟩
        have b3 := Lib.hid (bA.out.trans (b2.mono (by have := bA.out.size; omega)))
        cases hrv : rightE 16 x.x with
        | true =>
          go_wp2_with fail
          go_roundw
          case rel => exact ⟨i + 1, by omega, by go_num, fun j y hj hy => by
            by_cases ej : j = i
            · subst ej
              rw [HX.out] at hy
              injection hy with hy
              rw [← hy, HWB.out]
              exact hrv
            · exact HA.out j y (by omega) hy, b3.out⟩
          case measure => simp [intOf] <;> omega
        | false =>
          have HF := Lib.hid (HBAD.out (HWB.out.trans hrv))
          go_wp2_with fail
          go_ret
          exact ⟨by rw [HF.out]; rfl, b3.out⟩
      · have HF := Lib.hid (HBAD.out (by unfold wordB; rw [decide_eq_false hok, Bool.false_and]))
        go_wp2_with fail
        all_goals first
          | (go_ret; exact ⟨by rw [HF.out]; rfl, bA.out⟩)
          | (rename_i hq
             go_ret
             refine ⟨by rw [HF.out]; rfl, ?_⟩
             have hh := bA.out
             rw [hq] at hh
             exact hh)
          | (exfalso; simp at *; omega)
    · obtain rfl : i = ws.length := by omega
      have d1 : decide (ws.length < ws.length) = false := by simp
      have hf : ws.all wordB = true := List.all_eq_true.2 fun y hy => by
        obtain ⟨j, hj, ej⟩ := List.mem_iff_getElem.1 hy
        exact HA.out j y hj (by rw [← ej]; exact List.getElem?_eq_getElem hj)
      have HF := Lib.hid hf
      clear hf
      go_wp2_with fail
      go_ret
      exact ⟨by rw [HF.out]; rfl, br⟩
end Go.Proofs.Yteiogjgmedikhaa
