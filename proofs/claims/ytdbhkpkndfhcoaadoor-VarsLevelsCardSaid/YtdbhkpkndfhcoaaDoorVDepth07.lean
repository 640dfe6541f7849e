/-
  VarsDepth returns true. Its arguments: any.
-/
import Derived.Test.YtdbhkpkndfhcoaaDoorLawsV07
namespace Go.Proofs.YtdbhkpkndfhcoaaDoor
open Go Go.RowKit
set_option linter.unusedVariables false

theorem argsNil (W : World) : ArgsAt W none [] := fun i c v h => by simp at h
/-- The top level's variable k is 0 behind a push. -/
theorem top_zero {V : List Int} {i k : Nat} (hV : V.length = (i + 1) * 33) (hk : k < 33) : (V ++ (List.range 33).map fun _ => (0 : Int)).getD ((i + 1) * 33 + k) 0 = 0 := by
  rw [List.getD, List.getElem?_append_right (by omega), hV, Nat.add_sub_cancel_left]
  simp [hk]

set_option maxRecDepth 100000 in
set_option maxHeartbeats 1000000 in
theorem vdepth_walk (a b : Int) (w : World) (ht : Lib.TabIs Tryd.prog w "cnc/vars.numbers" .i64 tabNums) : Calls Tryd.prog 4 #[.int .i64 a, .int .i64 b] w fun e w' => e = .returned (.bool true) ∧ Below w.heap.size w w' := by
  have hw0 := tab_pos ht
  have hm1 := Int.emod_nonneg a (show (33 : Int) ≠ 0 by omega)
  have hm2 := Int.emod_lt_of_pos a (show (0 : Int) < 33 by omega)
  have KM := Lib.hid (fun W => mod_any a 33 W (by omega) (by omega))
  obtain ⟨k0, hk0⟩ : ∃ k0 : Nat, a % 33 = (k0 : Int) := ⟨(a % 33).toNat, by omega⟩
  rw [hk0] at KM hm1 hm2
  clear hk0
  have KB := Lib.hid (fun W => between_any b 1 1000 W (by omega) (by omega) (by omega))
  have hb := between_bd b 1 1000 (by omega)
  generalize 1 + b % (1000 - 1 + 1) = v at *
  obtain ⟨hb1, hb2⟩ := hb
  have hok : okV v := ⟨by omega, by omega⟩
  have KN := Lib.hid (new_any w)
  go_enter Tryd.func4, Tryd.ntmps4
  go_wp2_with fail
  refine KN.out.mono ?_
  rintro e w1 ⟨s, g0, rfl, h1, b1⟩
  have T1 := Lib.hid (tab_below ht b1 hw0)
  go_wp2_with fail
  refine (awake_true _ T1.out).mono ?_
  rintro e w2 ⟨rfl, b2⟩
  have h2 := h1.below b2
  have b12 := b1.trans (b2.mono b1.size)
  have H2 := Lib.hid h2
  clear h1 h2 b2 T1 KN
  go_wp2_with fail
  refine (KM.out _).mono ?_
  rintro e w' ⟨rfl, rfl⟩
  go_wp2_with fail
  go_loopw [7] (fun s7 wr => ∃ (i n g cap : Nat) (V : List Int) (C : Nat → Int), i ≤ 9 ∧ s7 = .int .i64 i ∧ (n = i + 1 ∨ (i = 9 ∧ n = 9)) ∧ StAt wr w.heap.size s g cap n V C ∧ (i ≤ 8 → V.getD (i * 33 + k0) 0 = 0) ∧ Below w.heap.size w wr)
    (fun s7 _ => 9 - (intOf s7).toNat)
  case atStart => exact ⟨0, 1, g0, 1, _, _, by omega, rfl, .inl rfl, H2.out, fun _ => by rw [List.getD, List.getElem?_replicate]; split <;> rfl, b12⟩
  case round =>
    obtain ⟨i, n, g, cap, V, C, hi, rfl, hn, h, hV, bel⟩ := hrel
    by_cases hlt : i ≤ 8
    · obtain rfl : n = i + 1 := by omega
      have hV := hV hlt
      have hk33 : k0 < 33 := by omega
      have hlen := h.len
      have KG := get_any (1 + (k0 : Int)) wr h
      have KL := fun m => level_any _ _ _ _ _ _ _ (wr.drewN m) (h.drewN m)
      have KS := fun m => set_any (1 + (k0 : Int)) v (wr.drewN m) (h.drewN m)
      have eG : getV (i + 1) V C (1 + (k0 : Int)) = (0, 0) := by rw [Int.add_comm, getV_local _ _ _ hk33, Nat.add_sub_cancel, hV]
      have eS : setE (1 + (k0 : Int)) v = 0 := by unfold setE; rw [if_neg (by omega), if_pos (by omega), if_pos hok]
      have eV : setVs (i + 1) V (1 + (k0 : Int)) v = V.set (i * 33 + k0) v := by unfold setVs; rw [if_pos ⟨by omega, hok⟩, Nat.add_sub_cancel, show (1 + (k0 : Int) - 1).toNat = k0 by omega]
      have eC : setC C (1 + (k0 : Int)) v = C := if_neg (by omega)
      rw [eG] at KG
      simp only [show (((i + 1 : Nat) : Int) - 1) = (i : Int) by omega] at KL
      simp only [eS, eV, eC] at KS
      have GG := Lib.hid KG
      have GL := Lib.hid KL
      have GS := Lib.hid KS
      have HH := Lib.hid h
      have d8 : decide (i ≤ 8) = true := by simp; omega
      have i3 : IntKind.i64.wrap ((i : Int) + 1) = (i : Int) + 1 := by rw [IntKind.wrap_i64]; omega
      clear KG KL KS eG eS eV eC h hV hn
      go_wp2_with fail
      refine GG.out.mono ?_
      rintro e w' ⟨rfl, m, rfl⟩
      go_wp2_with fail
      refine (GL.out m).mono ?_
      rintro e w' ⟨rfl, rfl⟩
      go_wp2_with fail
      refine (KB.out _).mono ?_
      rintro e w' ⟨rfl, rfl⟩
      go_wp2_with fail
      refine (GS.out m).mono ?_
      rintro e w3 ⟨rfl, h3, ho3⟩
      have b3 := (below_drewN bel m).trans (ho3.below' (HH.out.drewN m))
      have T3 := tab_below ht b3 hw0
      have KP := push_any none [] 0 w3 h3 (argsNil _) (by decide) T3 hw0
      have H3 := Lib.hid h3
      have GP := Lib.hid KP
      have hl3 := h3.len
      clear KP h3 ho3 T3 GG GL GS
      go_wp2_with fail
      refine GP.out.mono ?_
      rintro e w4 ⟨hp9, hp⟩
      by_cases h8 : i < 8
      · obtain ⟨he, ho, _, hst⟩ := hp (by omega)
        subst he
        obtain ⟨g', cap', _, h4⟩ := hst rfl
        have b4 := b3.trans (ho.below' H3.out)
        have H4 := Lib.hid h4
        have d7 : decide (i < 8) = true := by simp; omega
        have d7' : decide ((i : Int) < 8) = true := by simp; omega
        have d7'' : (i : Int) < 8 := by omega
        have e0 : (scanA [] (fun _ => false) (fun _ => 0)).1 = 0 := rfl
        rw [e0]
        clear hp hp9 hst ho h4 GP
        go_wp2_with fail
        go_roundw
        case rel => exact ⟨i + 1, i + 1 + 1, g', cap', _, C, by omega, by go_num, .inl rfl, H4.out, fun _ => top_zero (by simpa using hl3) hk33, b4⟩
        case measure => simp [intOf]; omega
      · obtain rfl : i = 8 := by omega
        obtain ⟨he, h4, ho⟩ := hp9 rfl
        subst he
        have b4 := b3.trans (ho.below' H3.out)
        have H4 := Lib.hid h4
        clear hp hp9 ho h4 GP
        go_wp2_with fail
        go_roundw
        case rel => exact ⟨9, 9, g, cap, _, C, by omega, by go_num, .inr ⟨rfl, rfl⟩, H4.out, fun h => by omega, b4⟩
        case measure => simp [intOf]
    · obtain rfl : i = 9 := by omega
      obtain rfl : n = 9 := by have := h.2.2.2.2.2; omega
      have ba := (Below.refl wr.heap.size wr).alloc (Nat.le_refl _) (.cells #[.int .i64 71, .int .i64 0] 36)
      have bA := bel.trans (ba.mono bel.size)
      have KP := push_any (some ⟨wr.heap.size, 0, none⟩) [(71, 0)] 1 _ (h.below ba) (args1 wr 71 0) (by decide) (tab_below ht bA hw0) hw0
      have HA := Lib.hid (h.below ba)
      have GP := Lib.hid KP
      clear KP h hV ba hn
      go_wp2_with fail
      refine GP.out.mono ?_
      rintro e w4 ⟨hp9, _⟩
      obtain ⟨he, h4, ho⟩ := hp9 rfl
      subst he
      have b4 := bA.trans (ho.below' HA.out)
      have KL := Lib.hid (level_any _ _ _ _ _ _ _ w4 h4)
      clear hp9 h4 ho GP bA
      go_wp2_with fail
      refine KL.out.mono ?_
      rintro e w' ⟨rfl, rfl⟩
      go_wp2_with fail
      go_ret
      exact ⟨rfl, b4⟩
end Go.Proofs.YtdbhkpkndfhcoaaDoor
