/-
  cncref07.Args: the error of the arguments, as the scan finds it. Any arguments.
-/
import Derived.Test.YtdbhkpkndfhcoaaDoorSame07
namespace Go.Proofs.YtdbhkpkndfhcoaaDoor
open Go Go.RowKit
set_option linter.unusedVariables false

/-- What the scan has seen of the first i arguments. -/
def Seen (A : List (Int × Int)) (i : Nat) (S : Nat → Bool) : Prop :=
  (∀ k c v, k < i → A[k]? = some (c, v) → 65 ≤ c ∧ S (c - 65).toNat = true) ∧ (∀ j, S j = true → ∃ k c v, k < i ∧ A[k]? = some (c, v) ∧ 65 ≤ c ∧ (c - 65).toNat = j)
theorem seen_next {A : List (Int × Int)} {i : Nat} {S : Nat → Bool} {c v : Int} (h : Seen A i S) (hi : A[i]? = some (c, v)) (hc : 65 ≤ c) : Seen A (i + 1) (updB S (c - 65).toNat) := by
  refine ⟨fun k c' v' hk hA => ?_, fun j hj => ?_⟩
  · unfold updB
    by_cases e : k = i
    · subst e
      rw [hi] at hA
      cases hA
      exact ⟨hc, if_pos rfl⟩
    · have := h.1 k c' v' (by omega) hA
      refine ⟨this.1, ?_⟩
      split
      · rfl
      · exact this.2
  · unfold updB at hj
    split at hj
    · rename_i e
      exact ⟨i, c, v, by omega, hi, hc, e.symm⟩
    · obtain ⟨k, c', v', hk, hA, h1, h2⟩ := h.2 j hj
      exact ⟨k, c', v', by omega, hA, h1, h2⟩

set_option maxRecDepth 100000 in
set_option maxHeartbeats 2000000 in
theorem rargs_any (a : Option Addr) (A : List (Int × Int)) (cp : Nat) (w : World) (hA : ArgsAt w a A) (hl63 : A.length ≤ 9223372036854775807) :
    Calls Tryd.prog 43 #[.slice a A.length cp] w fun e w' => e = .returned (.int .i64 (scanA A (fun _ => false) (fun _ => 0)).1) ∧ Below w.heap.size w w' := by
  go_enter Tryd.func43, Tryd.ntmps43
  go_wp2_with fail
  go_loopw [3] (fun s3 wr => ∃ (i : Nat) (l : Nat → Int) (S : Nat → Bool), i ≤ A.length ∧ s3 = .int .i64 i ∧ scanA (A.drop i) S l = scanA A (fun _ => false) (fun _ => 0) ∧ Seen A i S ∧ Below w.heap.size w wr)
    (fun s3 _ => A.length - (intOf s3).toNat)
  case atStart => exact ⟨0, fun _ => 0, fun _ => false, by omega, rfl, rfl, ⟨fun k c v h => by omega, fun j h => by cases h⟩, Below.refl _ _⟩
  case round =>
    obtain ⟨i, l, S, hi, rfl, hs, hseen, bel⟩ := hrel
    by_cases hlt : i < A.length
    · obtain ⟨⟨c, v⟩, hcv⟩ : ∃ cv, A[i]? = some cv := ⟨_, List.getElem?_eq_getElem hlt⟩
      obtain ⟨b, o, rfl, hbl, k1, k2⟩ := hA i c v hcv
      have q1 := (bel.cell (p := ⟨b, o + i * 2, none⟩) hbl).trans k1
      rw [scan_drop hcv S l] at hs
      have hln := localN_bd c
      have KL := Lib.hid (fun W => rlocal_any c W)
      have i1 : (0 : Int) ≤ (i : Int) := by omega
      have i2 : (i : Int) < (A.length : Int) := by omega
      have i3 : IntKind.i64.wrap ((i : Int) + 1) = (i : Int) + 1 := by rw [IntKind.wrap_i64]; omega
      have d1 : decide (i < A.length) = true := by simp; omega
      by_cases hz : localN c = 0
      · rw [if_pos hz] at hs
        rw [hz] at KL
        have HS := Lib.hid hs
        clear hs hln hz hseen
        go_wp2_with fail
        refine (KL.out _).mono ?_
        rintro e w1 ⟨rfl, b1⟩
        go_wp2_with fail
        go_ret
        exact ⟨by rw [← HS.out]; rfl, bel.trans (b1.mono bel.size)⟩
      · obtain ⟨_, _, hc1⟩ := hln
        obtain ⟨hc65, hc90⟩ := hc1 hz
        rw [if_neg hz] at hs
        have hz0 : (localN c == 0) = false := by simp; exact hz
        obtain ⟨ln, eln⟩ : ∃ z, localN c = z := ⟨_, rfl⟩
        have HS := Lib.hid hs
        rw [eln] at KL hz0
        have ELN := Lib.hid eln
        have HSEEN := Lib.hid hseen
        clear hs hz hseen hc1 eln
        go_wp2_with fail
        refine (KL.out _).mono ?_
        rintro e w1 ⟨rfl, b1⟩
        have bel1 := bel.trans (b1.mono bel.size)
        have hsz1 := bel1.size
        clear bel b1 KL q1
        go_wp2_with fail
        go_loopw [4] (fun s4 wk => ∃ k : Nat, k ≤ i ∧ s4 = .int .i64 k ∧ (∀ k' c' v', k' < k → A[k']? = some (c', v') → c' ≠ c) ∧ Below w.heap.size w wk)
          (fun s4 _ => i - (intOf s4).toNat)
        case atStart => exact ⟨0, by omega, rfl, fun k' c' v' h => by omega, bel1⟩
        case round =>
          obtain ⟨k, hk, rfl, hne, belk⟩ := hrel
          have q1 := (belk.cell (p := ⟨b, o + i * 2, none⟩) hbl).trans k1
          have q2 := (belk.cell (p := ⟨b, o + i * 2 + 1, none⟩) hbl).trans k2
          by_cases hki : k < i
          · obtain ⟨⟨c', v'⟩, hcv'⟩ : ∃ cv, A[k]? = some cv := ⟨_, List.getElem?_eq_getElem (by omega)⟩
            obtain ⟨b', o', e', hbl', k1', _⟩ := hA k c' v' hcv'
            cases e'
            have p1 := (belk.cell (p := ⟨b, o + k * 2, none⟩) hbl).trans k1'
            have j1 : (0 : Int) ≤ (k : Int) := by omega
            have j2 : (k : Int) < (A.length : Int) := by omega
            have j3 : IntKind.i64.wrap ((k : Int) + 1) = (k : Int) + 1 := by rw [IntKind.wrap_i64]; omega
            have d2 : decide (k < i) = true := by simp; omega
            by_cases hcc : c' = c
            · subst hcc
              have hsn := (HSEEN.out.1 k c' v' hki hcv').2
              have hs7 : scanA A (fun _ => false) (fun _ => 0) = (7, l) := by rw [← HS.out, if_pos hsn]
              have H7 := Lib.hid hs7
              clear hs7 hsn hne
              go_wp2_with fail
              go_quiet (fail)
              go_wp2_with fail
              go_ret
              exact ⟨by rw [H7.out]; rfl, below_drewN belk _⟩
            · have hcb : (c' == c) = false := by simp; exact hcc
              go_wp2_with fail
              go_quiet (fail)
              go_wp2_with fail
              go_roundw
              case rel =>
                refine ⟨k + 1, hki, by go_num, fun k' c'' v'' hk' hA' => ?_, below_drewN belk _⟩
                by_cases e : k' = k
                · subst e
                  rw [hcv'] at hA'
                  cases hA'
                  exact hcc
                · exact hne k' c'' v'' (by omega) hA'
              case measure => simp [intOf]; omega
          · obtain rfl : k = i := by omega
            have hS : ¬ S (c - 65).toNat = true := by
              intro hS
              obtain ⟨k', c', v', hk', hA', h65, e⟩ := HSEEN.out.2 _ hS
              exact hne k' c' v' hk' hA' (by omega)
            have hs := HS.out
            rw [if_neg hS] at hs
            by_cases hv : okV v
            · rw [if_pos hv] at hs
              have KV := Lib.hid (fun W => rvalid_yes hv W)
              have HS2 := Lib.hid hs
              clear hs hv hne HS
              go_wp2_with fail
              refine (KV.out _).mono ?_
              rintro e w' ⟨rfl, rfl⟩
              go_wp2_with fail
              go_roundw
              case rel => exact ⟨k + 1, _, _, hlt, by go_num, HS2.out, seen_next HSEEN.out hcv hc65, belk⟩
              case measure => simp [intOf]; omega
            · rw [if_neg hv] at hs
              have KV := Lib.hid (fun W => rvalid_no hv W)
              have HS2 := Lib.hid hs
              clear hs hv hne HS
              go_wp2_with fail
              refine (KV.out _).mono ?_
              rintro e w' ⟨rfl, rfl⟩
              go_wp2_with fail
              go_ret
              exact ⟨by rw [← HS2.out]; rfl, belk⟩
    · obtain rfl : i = A.length := by omega
      rw [List.drop_length] at hs
      have HS := Lib.hid hs
      clear hs
      go_wp2_with fail
      go_ret
      exact ⟨by rw [← HS.out]; rfl, bel⟩
end Go.Proofs.YtdbhkpkndfhcoaaDoor
