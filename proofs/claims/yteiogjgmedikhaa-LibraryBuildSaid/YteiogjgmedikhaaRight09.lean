/-
  syntax.kids, zero, right, Right.
-/
import Derived.Test.YteiogjgmedikhaaTree09
import Derived.Test.YteiogjgmedikhaaBuild
import Derived.Test.YteiogjgmedikhaaRowsInt
import Derived.Test.YteiogjgmedikhaaChecked
import Derived.Test.YteiogjgmedikhaaHeld
namespace Go.Proofs.Yteiogjgmedikhaa
open Go Go.RowKit
set_option linter.unusedVariables false

set_option maxRecDepth 100000 in
theorem kids_any (op : Int) (w : World) : Calls Try.prog 62 #[.int .i64 op] w fun e w' => e = .returned (.int .i64 (kidsN op)) ∧ w = w' := by
  go_enter Try.func62, Try.ntmps62
  go_wp2_with fail
  all_goals
    go_ret
    refine ⟨?_, rfl⟩
    first
      | rfl
      | (simp at *
         unfold kidsN
         repeat' split
         all_goals first | rfl | omega)
theorem zero_any (x : Ex) (a : Option Addr) (cap : Nat) (w : World) : Calls Try.prog 49 #[.agg (exC x.op x.n a x.kids.length cap).toArray] w fun e w' => e = .returned (.bool (zeroE x)) ∧ Below w.heap.size w w' := by
  obtain ⟨op, n, ks⟩ := x
  show Calls Try.prog 49 #[.agg #[.int .i64 op, .int .i64 n, .slice a ks.length cap]] w _
  have bel := (Below.refl w.heap.size w).alloc (Nat.le_refl _) (.cells #[.int .i64 op, .int .i64 n, .slice a ks.length cap] 35)
  go_enter Try.func49, Try.ntmps49
  go_wp2_with fail
  all_goals
    go_ret
    refine ⟨?_, by first | exact bel | (subst_vars; exact bel)⟩
    simp [zeroE, Ex.op, Ex.n, Ex.kids, *]
    try (cases ks <;> simp <;> omega)
set_option maxRecDepth 100000 in
set_option maxHeartbeats 1000000 in
theorem right_any : ∀ (m : Nat) (x : Ex) (a : Option Addr) (cap : Nat) (w : World), m ≤ 16 → ExAt w x a cap →
    Calls Try.prog 59 #[.agg #[.int .i64 x.op, .int .i64 x.n, .slice a x.kids.length cap], .int .i64 m] w fun e w' => e = .returned (.bool (rightE m x)) ∧ Below w.heap.size w w' := by
  intro m
  induction m with
  | zero =>
    intro x a cap w hm hx
    obtain ⟨op, n, ks⟩ := x
    show Calls Try.prog 59 #[.agg #[.int .i64 op, .int .i64 n, .slice a ks.length cap], .int .i64 0] w _
    let S : World → Prop := Keeps w.heap.size w w.heap.size 35 #[.int .i64 op, .int .i64 n, .slice a ks.length cap]
    have hs : S ((w.alloc (.cells #[.int .i64 op, .int .i64 n, .slice a ks.length cap] 35)).drew) := (Keeps.new (Below.refl _ _) (Nat.le_refl _) _ _).drew
    have inst : Nonempty (At S) := ⟨⟨_, hs⟩⟩
    have y0 : ∀ p : At S, p.w.cell? ⟨w.heap.size, 0, none⟩ = some (.int .i64 op) := fun p => p.ok.cell 0 rfl
    have y1 : ∀ p : At S, p.w.cell? ⟨w.heap.size, 1, none⟩ = some (.int .i64 n) := fun p => p.ok.cell 1 rfl
    have y2 : ∀ p : At S, p.w.cell? ⟨w.heap.size, 2, none⟩ = some (.slice a ks.length cap) := fun p => p.ok.cell 2 rfl
    have hB : ∀ p : At S, Below w.heap.size w p.w := fun p => p.ok.bel
    have hA : ∀ (p : At S) w', p.w = w' → S w' := fun p w' h => h ▸ p.ok
    clear_value S
    go_enter Try.func59, Try.ntmps59
    go_wp2_with fail
    refine wp_region_at S (by kernel_rfl) (by kernel_rfl) hs ?_
    repeat go_big_quiet_step (fail)
    refine wpQuiet_nil ?_
    rintro _ ⟨p, rfl⟩
    go_wp2_with fail
    go_ret
    exact ⟨rfl, hB p⟩
  | succ m ih =>
    intro x a cap w hm hx
    obtain ⟨op, n, ks⟩ := x
    show Calls Try.prog 59 #[.agg #[.int .i64 op, .int .i64 n, .slice a ks.length cap], .int .i64 ((m + 1 : Nat) : Int)] w _
    rw [Int.natCast_succ]
    let S : World → Prop := Keeps w.heap.size w w.heap.size 35 #[.int .i64 op, .int .i64 n, .slice a ks.length cap]
    have hs : S ((w.alloc (.cells #[.int .i64 op, .int .i64 n, .slice a ks.length cap] 35)).drew) := (Keeps.new (Below.refl _ _) (Nat.le_refl _) _ _).drew
    have inst : Nonempty (At S) := ⟨⟨_, hs⟩⟩
    have y0 : ∀ p : At S, p.w.cell? ⟨w.heap.size, 0, none⟩ = some (.int .i64 op) := fun p => p.ok.cell 0 rfl
    have y1 : ∀ p : At S, p.w.cell? ⟨w.heap.size, 1, none⟩ = some (.int .i64 n) := fun p => p.ok.cell 1 rfl
    have y2 : ∀ p : At S, p.w.cell? ⟨w.heap.size, 2, none⟩ = some (.slice a ks.length cap) := fun p => p.ok.cell 2 rfl
    have hB : ∀ p : At S, Below w.heap.size w p.w := fun p => p.ok.bel
    have hA : ∀ (p : At S) w', p.w = w' → S w' := fun p w' h => h ▸ p.ok
    have bf : ∀ p : At S, Blk p.w w.heap.size 35 #[.int .i64 op, .int .i64 n, .slice a ks.length cap] := fun p => p.ok.blk
    have KK := Lib.hid (fun W => kids_any op W)
    have IH := Lib.hid ih
    have HX := Lib.hid hx
    have BF := Lib.hid bf
    have HB := Lib.hid hB
    have m0 : ((m : Int) + 1 == 0) = false := by simp; omega
    clear ih hx bf hB
    clear_value S
    go_enter Try.func59, Try.ntmps59
    go_wp2_with fail
    refine wp_region_at S (by kernel_rfl) (by kernel_rfl) hs ?_
    repeat go_big_quiet_step (with_reducible exact Calls.at_of (KK.out _) fun e w' h => ⟨h.1, hA _ _ h.2⟩)
    refine wpQuiet_nil ?_
    rintro _ ⟨p, rfl⟩
    have hp := BF.out p
    have z0 := hp.cell 0
    have z1 := hp.cell 1
    have z2 := hp.cell 2
    have HBp := Lib.hid (HB.out p)
    generalize p.w = W1 at *
    by_cases hk : (ks.length : Int) = kidsN op
    · have t1 : ((ks.length : Int) != kidsN op) = false := by simp [hk]
      by_cases h0 : op = 0
      · have t2 : (op == 0) = true := by simpa using h0
        have hr : rightE (m + 1) (Ex.mk op n ks) = decide (0 ≤ n ∧ n < 1000000000000000) := by unfold rightE; rw [if_neg (not_not_intro hk), if_pos h0]
        have HR := Lib.hid hr
        clear hr
        go_wp2_with fail
        all_goals
          go_ret
          refine ⟨?_, HBp.out⟩
          have hr := HR.out
          simp_all
          try omega
      · have t2 : (op == 0) = false := by simpa using h0
        have hr : rightE (m + 1) (Ex.mk op n ks) = (ks.all (rightE m) && decide (n = 0)) := by unfold rightE; rw [if_neg (not_not_intro hk), if_neg h0]
        have HR := Lib.hid hr
        have hget : ∀ k, k < ks.length → ∃ x, ks[k]? = some x := fun k hk => ⟨ks[k], List.getElem?_eq_getElem hk⟩
        have HG := Lib.hid hget
        have hx := HX.out
        cases hx with
        | mk kk hn hc hmm hh =>
          have HN := Lib.hid hn
          have HH := Lib.hid hh
          clear hr hk hget hn hh
          go_wp2_with fail
          simp only [t1]
          go_loopw [32] (fun s wr => ∃ i : Nat, i ≤ ks.length ∧ s = .int .i64 i ∧ (∀ (j : Nat) (x : Ex), j < i → ks[j]? = some x → rightE m x = true) ∧ Keeps w.heap.size w w.heap.size 35 #[.int .i64 op, .int .i64 n, .slice a ks.length cap] wr)
            (fun s _ => ks.length - (intOf s).toNat)
          case atStart => exact ⟨0, by omega, rfl, fun j x h => by omega, hp, HBp.out, by have := HBp.out.size; omega⟩
          case round =>
            obtain ⟨i, hi, rfl, hall, hkp⟩ := hrel
            have HA := Lib.hid hall
            have HK := Lib.hid hkp
            have i0 : (0 : Int) ≤ (i : Int) := by omega
            clear hall
            by_cases hlt : i < ks.length
            · have d1 : decide (i < ks.length) = true := by simpa using hlt
              have i1 : (i : Int) < (ks.length : Int) := by omega
              obtain ⟨x, hx⟩ := HG.out i hlt
              rcases HN.out with e | ⟨b, o, e, hl, hc⟩
              · subst e
                simp at hlt
              · subst e
                obtain ⟨xo, xn, xk⟩ := x
                have cl := fun j (v : Value) (h : _) => (hkp.bel.cell (p := ⟨b, o + i * 3 + j, none⟩) hl).trans (hc i _ hx j v h)
                have p0 := cl 0 _ rfl
                have p1 := cl 1 _ rfl
                have p2 := cl 2 _ rfl
                simp only [Nat.add_zero, Ex.op, Ex.n, Ex.kids] at p0 p1 p2
                have KR := Lib.hid (fun W (hb : Below w.heap.size w W) => IH.out (.mk xo xn xk) (kk i).1 (kk i).2 W (by omega) ((HH.out i _ hx).under hb))
                have q1 := hkp.blk.cell 1
                clear cl hc hkp
                go_wp2_with fail
                refine (KR.out _ (HK.out.bel.alloc HK.out.size _)).mono ?_
                rintro e w2 ⟨rfl, b2⟩
                have K2 := Lib.hid ((HK.out.alloc _).below b2)
                cases hrv : rightE m (.mk xo xn xk) with
                | true =>
                  go_wp2_with fail
                  go_roundw
                  case rel => exact ⟨i + 1, by omega, by go_num, fun j y hj hy => by
                    by_cases ej : j = i
                    · subst ej
                      rw [hx] at hy
                      injection hy with hy
                      rw [← hy]
                      exact hrv
                    · exact HA.out j y (by omega) hy, K2.out⟩
                  case measure => simp [intOf] <;> omega
                | false =>
                  have hf : ks.all (rightE m) = false := List.all_eq_false.2 ⟨_, List.mem_of_getElem? hx, by simp [hrv]⟩
                  have HF := Lib.hid hf
                  clear hf
                  go_wp2_with fail
                  go_ret
                  exact ⟨by rw [HR.out, HF.out]; rfl, K2.out.bel⟩
            · obtain rfl : i = ks.length := by omega
              have d1 : decide (ks.length < ks.length) = false := by simp
              have q1 := hkp.blk.cell 1
              clear hkp
              have hf : ks.all (rightE m) = true := List.all_eq_true.2 fun y hy => by
                obtain ⟨j, hj, ej⟩ := List.mem_iff_getElem.1 hy
                exact HA.out j y hj (by rw [← ej]; exact List.getElem?_eq_getElem hj)
              have HF := Lib.hid hf
              clear hf
              go_wp2_with fail
              go_ret
              refine ⟨?_, HK.out.bel⟩
              rw [HR.out, HF.out]
              simp
              rfl
    · have t1 : ((ks.length : Int) != kidsN op) = true := by simpa using hk
      go_wp2_with fail
      go_ret
      exact ⟨by simp [rightE, hk], HBp.out⟩
theorem right16_any (x : Ex) (a : Option Addr) (cap : Nat) (w : World) (hx : ExAt w x a cap) :
    Calls Try.prog 51 #[.agg #[.int .i64 x.op, .int .i64 x.n, .slice a x.kids.length cap]] w fun e w' => e = .returned (.bool (rightE 16 x)) ∧ Below w.heap.size w w' := by
  have bel := (Below.refl w.heap.size w).alloc (Nat.le_refl _) (.cells #[.int .i64 x.op, .int .i64 x.n, .slice a x.kids.length cap] 35)
  have KR := right_any 16 x a cap _ (Nat.le_refl _) (hx.under bel)
  rw [show ((16 : Nat) : Int) = 16 from rfl] at KR
  have KR := Lib.hid KR
  clear hx
  generalize rightE 16 x = r at *
  obtain ⟨op, n, ks⟩ := x
  simp only [Ex.op, Ex.n, Ex.kids] at KR bel ⊢
  go_enter Try.func51, Try.ntmps51
  go_wp2_with fail
  refine KR.out.mono ?_
  rintro e w2 ⟨rfl, b2⟩
  have b3 := bel.trans (b2.mono bel.size)
  clear bel b2
  go_wp2_with fail
  go_ret
  exact ⟨rfl, b3⟩
end Go.Proofs.Yteiogjgmedikhaa
