/-
  Find of library and of cncref09.
-/
import Derived.Test.YteiogjgmedikhaaRBldP09
import Derived.Test.YteiogjgmedikhaaHeld
namespace Go.Proofs.Yteiogjgmedikhaa
open Go Go.RowKit
set_option linter.unusedVariables false

/-- The first program with a number. -/
def findR (P : List (Int × Nat)) (n : Int) : Nat × Bool := match P.findIdx? (fun p => decide (p.1 = n)) with | some k => (k, true) | none => (0, false)
theorem findR_at {P : List (Int × Nat)} {n : Int} {k : Nat} (hk : k < P.length) (h : (P.getD k (0, 0)).1 = n) (hall : ∀ j, j < k → (P.getD j (0, 0)).1 ≠ n) : findR P n = (k, true) := by
  unfold findR
  have : P.findIdx? (fun p => decide (p.1 = n)) = some k := by
    rw [List.findIdx?_eq_some_iff_getElem]
    refine ⟨hk, ?_, fun j hj => ?_⟩
    · simp [List.getD, hk] at h; simpa using h
    · have h2 : j < P.length := by omega
      have := hall j hj
      simp [List.getD, h2] at this
      simpa using this
  rw [this]
theorem findR_none {P : List (Int × Nat)} {n : Int} (hall : ∀ j, j < P.length → (P.getD j (0, 0)).1 ≠ n) : findR P n = (0, false) := by
  unfold findR
  have : P.findIdx? (fun p => decide (p.1 = n)) = none := by
    rw [List.findIdx?_eq_none_iff]
    intro p hp
    obtain ⟨j, hj⟩ := List.mem_iff_getElem?.1 hp
    have h2 : j < P.length := (List.getElem?_eq_some_iff.1 hj).1
    have := hall j h2
    simp [List.getD, hj] at this
    simpa using this
  rw [this]
theorem findR_dup {P : List (Int × Nat)} {n : Int} : (findR P n).2 = decide (n ∈ P.map (·.1)) := by
  unfold findR
  cases h : P.findIdx? (fun p => decide (p.1 = n)) with
  | none =>
    rw [List.findIdx?_eq_none_iff] at h
    symm
    refine decide_eq_false fun hm => ?_
    obtain ⟨p, hp, e⟩ := List.mem_map.1 hm
    have := h p hp
    simp [e] at this
  | some k =>
    rw [List.findIdx?_eq_some_iff_getElem] at h
    obtain ⟨hk, h1, _⟩ := h
    symm
    exact decide_eq_true (List.mem_map.2 ⟨P[k], List.getElem_mem hk, by simpa using h1⟩)
set_option maxRecDepth 100000 in
set_option maxHeartbeats 1000000 in
theorem rfind_any (P : List (Int × Nat)) (e : Nat) (n : Int) (vb vm : Value) (ap : Option Addr) (cp : Nat) (w : World) (h : TabAt w ap 3 P.length (progC P e)) (hl : P.length ≤ 1000000) :
    Calls Try.prog 31 #[.agg #[vb, .slice ap P.length cp, vm], .int .i64 n] w fun x w' => x = .returned (.tuple #[.int .i64 ((findR P n).1 : Nat), .bool (findR P n).2]) ∧ Below w.heap.size w w' := by
  have H := Lib.hid h
  have K0 := Lib.hid (Keeps.new (Below.refl w.heap.size w) (Nat.le_refl _) 42 #[vb, .slice ap P.length cp, vm])
  clear h
  go_enter Try.func31, Try.ntmps31
  go_wp2_with fail
  go_loopw [6] (fun s1 wr => ∃ i : Nat, i ≤ P.length ∧ s1 = .int .i64 i ∧ (∀ j, j < i → (P.getD j (0, 0)).1 ≠ n) ∧ Keeps w.heap.size w w.heap.size 42 #[vb, .slice ap P.length cp, vm] wr) (fun s1 _ => P.length - (intOf s1).toNat)
  case atStart => exact ⟨0, by omega, rfl, fun j h => by omega, K0.out⟩
  case round =>
    obtain ⟨i, hi, rfl, hall, hk⟩ := hrel
    have HA := Lib.hid hall
    have HK := Lib.hid hk
    have i0 : (0 : Int) ≤ (i : Int) := by omega
    have f1 := hk.blk.cell 1
    clear hall
    by_cases hlt : i < P.length
    · have d1 : decide (i < P.length) = true := by simpa using hlt
      have i1 : (i : Int) < (P.length : Int) := by omega
      obtain ⟨_, b, o, rfl, hb, hc⟩ := H.out i hlt
      have p0 := (hk.bel.cell (p := ⟨b, o + i * 3 + 0, none⟩) hb).trans (hc 0 (by decide))
      have p1 := (hk.bel.cell (p := ⟨b, o + i * 3 + 1, none⟩) hb).trans (hc 1 (by decide))
      have p2 := (hk.bel.cell (p := ⟨b, o + i * 3 + 2, none⟩) hb).trans (hc 2 (by decide))
      simp only [progC, Nat.add_zero] at p0 p1 p2
      generalize hq : (P.getD i (0, 0)).1 = q at *
      generalize (P.getD i (0, 0)).2 = q2 at *
      generalize (if i + 1 < P.length then (P.getD (i + 1) (0, 0)).2 else e) = q3 at *
      have HQ := Lib.hid hq
      have KA := Lib.hid (fun o => HK.out.alloc o)
      clear hc hk hq hb
      by_cases he : q = n
      · have e1 : (q == n) = true := by simpa using he
        have HR := Lib.hid (findR_at hlt (HQ.out.trans he) HA.out)
        clear he
        go_wp2_with fail
        go_ret2
        rw [HR.out]
        exact ⟨rfl, HK.out.bel⟩
      · have e1 : (q == n) = false := by simpa using he
        have HE := Lib.hid he
        clear he
        go_wp2_with fail
        go_roundw
        case rel => exact ⟨i + 1, by omega, by go_num, fun j hj => by
          by_cases ej : j = i
          · subst ej
            rw [HQ.out]
            exact HE.out
          · exact HA.out j (by omega), HK.out⟩
        case measure => simp [intOf]; omega
    · obtain rfl : i = P.length := by omega
      have d1 : decide (P.length < P.length) = false := by simp
      have HR := Lib.hid (findR_none HA.out)
      clear hk
      go_wp2_with fail
      go_ret2
      rw [HR.out]
      exact ⟨rfl, HK.out.bel⟩
set_option maxRecDepth 100000 in
set_option maxHeartbeats 1000000 in
theorem find_any (P : List (Int × Nat)) (e : Nat) (n : Int) (vb vm : Value) (ap : Option Addr) (cp : Nat) (w : World) (h : TabAt w ap 3 P.length (progC P e)) (hl : P.length ≤ 1000000) :
    Calls Try.prog 28 #[.agg #[vb, .slice ap P.length cp, vm], .int .i64 n] w fun x w' => x = .returned (.tuple #[.int .i64 ((findR P n).1 : Nat), .bool (findR P n).2]) ∧ Below w.heap.size w w' := by
  have H := Lib.hid h
  have K0 := Lib.hid (Keeps.new (Below.refl w.heap.size w) (Nat.le_refl _) 42 #[vb, .slice ap P.length cp, vm])
  clear h
  go_enter Try.func28, Try.ntmps28
  go_wp2_with fail
  go_loopw [11] (fun s1 wr => ∃ i : Nat, i ≤ P.length ∧ s1 = .int .i64 i ∧ (∀ j, j < i → (P.getD j (0, 0)).1 ≠ n) ∧ Keeps w.heap.size w w.heap.size 42 #[vb, .slice ap P.length cp, vm] wr) (fun s1 _ => P.length - (intOf s1).toNat)
  case atStart => exact ⟨0, by omega, rfl, fun j h => by omega, K0.out⟩
  case round =>
    obtain ⟨i, hi, rfl, hall, hk⟩ := hrel
    have HA := Lib.hid hall
    have HK := Lib.hid hk
    have i0 : (0 : Int) ≤ (i : Int) := by omega
    have f1 := hk.blk.cell 1
    clear hall
    by_cases hlt : i < P.length
    · have d1 : decide (i < P.length) = true := by simpa using hlt
      have i1 : (i : Int) < (P.length : Int) := by omega
      obtain ⟨_, b, o, rfl, hb, hc⟩ := H.out i hlt
      have p0 := (hk.bel.cell (p := ⟨b, o + i * 3 + 0, none⟩) hb).trans (hc 0 (by decide))
      have p1 := (hk.bel.cell (p := ⟨b, o + i * 3 + 1, none⟩) hb).trans (hc 1 (by decide))
      have p2 := (hk.bel.cell (p := ⟨b, o + i * 3 + 2, none⟩) hb).trans (hc 2 (by decide))
      simp only [progC, Nat.add_zero] at p0 p1 p2
      generalize hq : (P.getD i (0, 0)).1 = q at *
      generalize (P.getD i (0, 0)).2 = q2 at *
      generalize (if i + 1 < P.length then (P.getD (i + 1) (0, 0)).2 else e) = q3 at *
      have HQ := Lib.hid hq
      have KA := Lib.hid (fun o => HK.out.alloc o)
      clear hc hk hq hb
      by_cases he : q = n
      · have e1 : (q == n) = true := by simpa using he
        have HR := Lib.hid (findR_at hlt (HQ.out.trans he) HA.out)
        clear he
        go_wp2_with fail
        go_ret2
        rw [HR.out]
        exact ⟨rfl, (KA.out _).bel⟩
      · have e1 : (q == n) = false := by simpa using he
        have HE := Lib.hid he
        clear he
        go_wp2_with fail
        go_roundw
        case rel => exact ⟨i + 1, by omega, by go_num, fun j hj => by
          by_cases ej : j = i
          · subst ej
            rw [HQ.out]
            exact HE.out
          · exact HA.out j (by omega), KA.out _⟩
        case measure => simp [intOf]; omega
    · obtain rfl : i = P.length := by omega
      have d1 : decide (P.length < P.length) = false := by simp
      have HR := Lib.hid (findR_none HA.out)
      clear hk
      go_wp2_with fail
      go_ret2
      rw [HR.out]
      exact ⟨rfl, HK.out.bel⟩
end Go.Proofs.Yteiogjgmedikhaa
