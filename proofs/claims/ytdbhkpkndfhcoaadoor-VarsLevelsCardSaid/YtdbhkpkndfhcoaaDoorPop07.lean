/-
  vars.Store: Pop; cncref07.Store: Pop. Stores of 1 to 9 levels.
-/
import Derived.Test.YtdbhkpkndfhcoaaDoorRStore07
import Derived.Test.YtdbhkpkndfhcoaaDoorHeldE
namespace Go.Proofs.YtdbhkpkndfhcoaaDoor
open Go Go.RowKit
set_option linter.unusedVariables false

theorem own_take {w : World} {base : Nat} {e : TypeId} {size n m g cap : Nat} {xs : List Value} (h : w.ownsRow base e size (.slice (some ⟨g, 0, none⟩) n cap) n xs) (hm : m ≤ n) : w.ownsRow base e size (.slice (some ⟨g, 0, none⟩) m cap) m (xs.take (m * size)) := by
  have hle : m * size ≤ n * size := Nat.mul_le_mul_right _ hm
  refine ⟨by rw [List.length_take, h.1]; omega, ?_⟩
  rcases h.2 with ⟨h1, _⟩ | ⟨g', cap', cur, hv, hb, hg, hn, hc, hs, hx⟩
  · simp at h1
  · injection hv with e1 e2 e3
    injection e1 with e1
    injection e1 with e1
    subst e1 e3
    exact .inr ⟨g, cap, cur, rfl, hb, hg, by omega, hc, hs, by rw [← hx, List.take_take, Nat.min_eq_left hle]⟩

set_option maxRecDepth 100000 in
set_option maxHeartbeats 1000000 in
theorem pop_any {base s g cap n : Nat} {V : List Int} {C : Nat → Int} (w : World) (h : StAt w base s g cap n V C) :
    Calls Tryd.prog 25 #[.pointer (some ⟨s, 0, none⟩)] w fun e w' => Only s g w w' ∧ (n = 1 → e = .returned (.int .i64 13) ∧ StAt w' base s g cap n V C) ∧
      (1 < n → e = .returned (.int .i64 0) ∧ StAt w' base s g cap (n - 1) (V.take ((n - 1) * 33)) C) := by
  have K := Lib.hid (fun m => level_any base s g cap n V C (w.drewN m) (h.drewN m))
  have hn := h.2.2.2.2
  by_cases h1 : n = 1
  · subst h1
    go_enter Tryd.func25, Tryd.ntmps25
    go_wp2_with fail
    refine (K.out 0).mono ?_
    rintro e w' ⟨rfl, rfl⟩
    go_wp2_with fail
    go_ret
    exact ⟨Only.refl _ _ _, fun _ => ⟨rfl, h⟩, fun h => by omega⟩
  · have d1 : ((n : Int) - 1 == 0) = false := by simp; omega
    obtain ⟨hn1, hn9⟩ := hn
    have i0 : (0 : Int) ≤ (n : Int) - 1 := by omega
    have i00 : (1 : Int) ≤ (n : Int) := by omega
    have hcap : n ≤ cap := by
      rcases h.2.1.2 with ⟨e, _⟩ | ⟨g', cap', cur, e, _, _, hc, _⟩
      · simp at e
      · injection e with _ _ e; omega
    have i1 : (n : Int) - 1 ≤ (cap : Int) := by omega
    have i2 : ((n : Int) - 1).toNat = n - 1 := by omega
    have c0 := (h.1.cell 0).trans (stC_zero _ _)
    have f0 := h.1.frozen 0
    go_enter Tryd.func25, Tryd.ntmps25
    go_wp2_with fail
    refine (K.out 0).mono ?_
    rintro e w' ⟨rfl, rfl⟩
    go_wp2_with fail
    have hS0 : w.drew.cell? ⟨s, 0, none⟩ = some (.slice (some ⟨g, 0, none⟩) n cap) := c0
    refine region_E (fun w' => w'.cell? ⟨s, 0, none⟩ = some (.slice (some ⟨g, 0, none⟩) n cap)) 10 (by kernel_rfl) ?_
    refine take_E 0 (v := .pointer (some ⟨s, 0, none⟩)) rfl (by kernel_rfl) (by kernel_rfl) (by kernel_rfl) (by kernel_rfl) (fun _ _ _ h => h) rfl (fun W' hW' => by go_simp) hS0 ?_
    refine take_E 1 (v := .pointer (some ⟨s, 0, none⟩)) rfl (by kernel_rfl) (by kernel_rfl) (by kernel_rfl) (by kernel_rfl) (fun _ _ _ h => h) rfl (fun W' hW' => by go_simp) hS0 ?_
    refine take_E 2 (v := .pointer (some ⟨s, 0, none⟩)) rfl (by kernel_rfl) (by kernel_rfl) (by kernel_rfl) (by kernel_rfl) (fun _ _ _ h => h) rfl (fun W' hW' => by go_simp) hS0 ?_
    refine take_E 3 (v := .pointer (some ⟨s, 0, none⟩)) rfl (by kernel_rfl) (by kernel_rfl) (by kernel_rfl) (by kernel_rfl) (fun _ _ _ h => h) rfl (fun W' hW' => by go_simp) hS0 ?_
    refine take_E 4 (v := (.slice (some ⟨g, 0, none⟩) n cap)) rfl (by kernel_rfl) (by kernel_rfl) (by kernel_rfl) (by kernel_rfl) (fun _ _ _ h => h) rfl (fun W' hW' => by have e0 := hW'; go_simp) hS0 ?_
    refine take_E 5 (v := .pointer (some ⟨s, 0, none⟩)) rfl (by kernel_rfl) (by kernel_rfl) (by kernel_rfl) (by kernel_rfl) (fun _ _ _ h => h) rfl (fun W' hW' => by go_simp) hS0 ?_
    refine one_E 6 (by kernel_rfl) rfl rfl fun K6 hK6 => ?_
    have HK6 := Lib.hid hK6
    clear hK6
    go_simp
    refine (K.out 1).mono ?_
    rintro e w' ⟨rfl, rfl⟩
    refine HK6.out _ _ (fun _ => hS0) ?_
    refine one_E 7 (by kernel_rfl) rfl rfl fun K7 hK7 => ?_
    have HK7 := Lib.hid hK7
    clear hK7
    go_simp
    refine HK7.out _ _ (fun _ => hS0) ?_
    refine one_E 8 (by kernel_rfl) rfl rfl fun K8 hK8 => ?_
    have HK8 := Lib.hid hK8
    clear hK8
    go_simp
    refine HK8.out _ _ (fun _ => hS0) ?_
    refine one_E 9 (by kernel_rfl) rfl rfl fun K9 hK9 => ?_
    have HK9 := Lib.hid hK9
    clear hK9
    go_simp
    refine HK9.out _ _ (fun _ => hS0) ?_
    refine one_E 10 (by kernel_rfl) rfl rfl fun K10 hK10 => ?_
    have HK10 := Lib.hid hK10
    clear hK10
    go_simp
    refine HK10.out _ _ (fun x => absurd rfl x) ?_
    refine done_E (by kernel_rfl) ?_ _
    have kst := h.1.put 0 (.slice (some ⟨g, 0, none⟩) (n - 1) cap)
    rw [stC_lv] at kst
    have hon := (own_take h.2.1 (show n - 1 ≤ n by omega)).kept (grown_setCell (p := ⟨s, 0, none⟩) (grown_refl w (some s)) (.inl rfl) (.slice (some ⟨g, 0, none⟩) (n - 1) cap)) (.inr fun e => h.2.2.1 (by have e' : some g = some s := e; exact (Option.some.inj e').symm))
    rw [← List.map_take] at hon
    have hst : StAt (w.setCell ⟨s, 0, none⟩ (.slice (some ⟨g, 0, none⟩) (n - 1) cap)) base s g cap (n - 1) (V.take ((n - 1) * 33)) C := ⟨kst, hon, h.2.2.1, h.2.2.2.1, by omega, by omega⟩
    go_simp
    go_wp2_with fail
    go_ret
    exact ⟨(Only.put1 w _).drewN 1, fun h => absurd h h1, fun _ => ⟨rfl, hst.drewN 1⟩⟩
end Go.Proofs.YtdbhkpkndfhcoaaDoor
