/-
  Of, Label and Inside of library and of cncref09.
  What holds of a library's programs and mates. Plain. No condition.
  Inside of library and of cncref09.
-/
import Derived.Test.YteiogjgmedikhaaFind09
import Derived.Test.YteiogjgmedikhaaAddA09
import Derived.Test.YteiogjgmedikhaaLit09
import Derived.Test.YteiogjgmedikhaaMemB09
namespace Go.Proofs.Yteiogjgmedikhaa
open Go Go.RowKit
set_option linter.unusedVariables false

def firstAt (P : List (Int × Nat)) (i : Nat) : Nat := (P.getD i (0, 0)).2
def endAt (P : List (Int × Nat)) (n i : Nat) : Nat := if i + 1 < P.length then (P.getD (i + 1) (0, 0)).2 else n
/-- The program to which a block belongs. -/
def ofR (P : List (Int × Nat)) (n : Nat) (x : Int) : Int := match (List.range P.length).find? (fun i => decide ((firstAt P i : Int) ≤ x ∧ x < endAt P n i)) with | some i => i | none => -1
theorem find_at {p : Nat → Bool} {n i : Nat} (hi : i < n) (h : p i = true) (hall : ∀ j, j < i → p j = false) : (List.range n).find? p = some i := by
  rw [List.find?_range_eq_some]
  exact ⟨h, by simpa using hi, fun j hj => by simp [hall j hj]⟩
theorem find_none {p : Nat → Bool} {n : Nat} (hall : ∀ j, j < n → p j = false) : (List.range n).find? p = none := by
  rw [List.find?_range_eq_none]
  exact fun j hj => by simp [hall j hj]
theorem ofR_at {P : List (Int × Nat)} {n i : Nat} {x : Int} (hi : i < P.length) (h1 : (firstAt P i : Int) ≤ x) (h2 : x < endAt P n i) (hall : ∀ j, j < i → ¬ ((firstAt P j : Int) ≤ x ∧ x < endAt P n j)) : ofR P n x = i := by
  unfold ofR
  rw [find_at hi (decide_eq_true ⟨h1, h2⟩) fun j hj => decide_eq_false (hall j hj)]
theorem ofR_none {P : List (Int × Nat)} {n : Nat} {x : Int} (hall : ∀ j, j < P.length → ¬ ((firstAt P j : Int) ≤ x ∧ x < endAt P n j)) : ofR P n x = -1 := by
  unfold ofR
  rw [find_none fun j hj => decide_eq_false (hall j hj)]
def labAt (bs : List BlkL) (i : Nat) : Int := match bs[i]? with | some b => b.label | none => 0
def kindAt (bs : List BlkL) (i : Nat) : Int := match bs[i]? with | some b => b.kind | none => 0
def labR (bs : List BlkL) (f e : Nat) (lb : Int) : Nat × Bool := match (List.range e).find? (fun i => decide (f ≤ i ∧ labAt bs i = lb)) with | some i => (i, true) | none => (0, false)
theorem labR_at {bs : List BlkL} {f e i : Nat} {lb : Int} (hi : i < e) (h1 : f ≤ i) (h2 : labAt bs i = lb) (hall : ∀ j, f ≤ j → j < i → labAt bs j ≠ lb) : labR bs f e lb = (i, true) := by
  unfold labR
  rw [find_at hi (decide_eq_true ⟨h1, h2⟩) fun j hj => decide_eq_false fun h => hall j h.1 hj h.2]
theorem labR_none {bs : List BlkL} {f e : Nat} {lb : Int} (hall : ∀ j, f ≤ j → j < e → labAt bs j ≠ lb) : labR bs f e lb = (0, false) := by
  unfold labR
  rw [find_none fun j hj => decide_eq_false fun h => hall j h.1 hj h.2]
def lookR (bs : List BlkL) (P : List (Int × Nat)) (pg lb : Int) : Nat × Bool := if lb < 1 ∨ pg < 0 ∨ (P.length : Int) ≤ pg then (0, false) else labR bs (firstAt P pg.toNat) (endAt P bs.length pg.toNat) lb
/-- The beginnings of the loops that contain a block. -/
def insR (M : List Int) (x : Int) (n : Nat) : List Int := ((List.range n).filter fun w : Nat => decide ((w : Int) < x ∧ x ≤ M.getD w (-1))).map fun w : Nat => (w : Int)
theorem insR_succ (M : List Int) (x : Int) (n : Nat) : insR M x (n + 1) = insR M x n ++ if (n : Int) < x ∧ x ≤ M.getD n (-1) then [(n : Int)] else [] := by
  unfold insR
  rw [List.range_succ, List.filter_append, List.map_append]
  congr 1
  by_cases h : (n : Int) < x ∧ x ≤ M.getD n (-1)
  · rw [if_pos h]; simp only [List.filter_cons, decide_eq_true h]; rfl
  · rw [if_neg h]; simp only [List.filter_cons, decide_eq_false h]; rfl
theorem insR_len (M : List Int) (x : Int) (n : Nat) : (insR M x n).length ≤ n := by
  unfold insR
  rw [List.length_map]
  have := List.length_filter_le (fun w : Nat => decide ((w : Int) < x ∧ x ≤ M.getD w (-1))) (List.range n)
  simpa using this
theorem insR_more (M : List Int) (x : Int) (m : Nat) (h : x ≤ m) : ∀ d, insR M x (m + d) = insR M x m
  | 0 => rfl
  | d + 1 => by
    rw [← Nat.add_assoc, insR_succ, if_neg (by omega), List.append_nil]
    exact insR_more M x m h d

set_option maxRecDepth 100000 in
set_option maxHeartbeats 1000000 in
theorem rof_any (P : List (Int × Nat)) (e : Nat) (x : Int) (vb vm : Value) (ap : Option Addr) (cp : Nat) (w : World) (h : TabAt w ap 3 P.length (progC P e)) (hl : P.length ≤ 1000000) :
    Calls Try.prog 33 #[.agg #[vb, .slice ap P.length cp, vm], .int .i64 x] w fun y w' => y = .returned (.int .i64 (ofR P e x)) ∧ Below w.heap.size w w' := by
  have H := Lib.hid h
  have K0 := Lib.hid (Keeps.new (Below.refl w.heap.size w) (Nat.le_refl _) 42 #[vb, .slice ap P.length cp, vm])
  clear h
  go_enter Try.func33, Try.ntmps33
  go_wp2_with fail
  go_loopw [5] (fun s1 wr => ∃ i : Nat, i ≤ P.length ∧ s1 = .int .i64 i ∧ (∀ j, j < i → ¬ ((firstAt P j : Int) ≤ x ∧ x < endAt P e j)) ∧ Keeps w.heap.size w w.heap.size 42 #[vb, .slice ap P.length cp, vm] wr) (fun s1 _ => P.length - (intOf s1).toNat)
  case atStart => exact ⟨0, by omega, rfl, fun j h => by omega, K0.out⟩
  case round =>
    obtain ⟨i, hi, rfl, hall, hk⟩ := hrel
    have HA := Lib.hid hall
    have HK := Lib.hid hk
    have i0 : (0 : Int) ≤ (i : Int) := by omega
    have f1 := hk.blk.cell 1
    clear hall
    by_cases hlt : i < P.length
    · have d1 : decide (i < P.length) = true := by simpa using hlt
      have i1 : (i : Int) < (P.length : Int) := by omega
      obtain ⟨_, b, o, rfl, hb, hc⟩ := H.out i hlt
      have p0 := (hk.bel.cell (p := ⟨b, o + i * 3 + 0, none⟩) hb).trans (hc 0 (by decide))
      have p1 := (hk.bel.cell (p := ⟨b, o + i * 3 + 1, none⟩) hb).trans (hc 1 (by decide))
      have p2 := (hk.bel.cell (p := ⟨b, o + i * 3 + 2, none⟩) hb).trans (hc 2 (by decide))
      simp only [progC, Nat.add_zero] at p0 p1 p2
      have hq1 : (P.getD i (0, 0)).2 = firstAt P i := rfl
      have hq2 : (if i + 1 < P.length then (P.getD (i + 1) (0, 0)).2 else e) = endAt P e i := rfl
      rw [hq1] at p1
      rw [hq2] at p2
      generalize hf : firstAt P i = f at *
      generalize he : endAt P e i = g at *
      generalize (P.getD i (0, 0)).1 = q at *
      have HF := Lib.hid hf
      have HE := Lib.hid he
      have KA := Lib.hid (fun o => HK.out.alloc o)
      clear hc hk hf he hb hq1 hq2
      by_cases h1 : (f : Int) ≤ x
      · have d2 : decide ((f : Int) ≤ x) = true := decide_eq_true h1
        by_cases h2 : x < (g : Int)
        · have d3 : decide (x < (g : Int)) = true := decide_eq_true h2
          have HR := Lib.hid (ofR_at (n := e) hlt (by rw [HF.out]; exact h1) (by rw [HE.out]; exact h2) HA.out)
          clear h1 h2
          go_wp2_with fail
          go_ret
          rw [HR.out]
          exact ⟨rfl, HK.out.bel⟩
        · have d3 : decide (x < (g : Int)) = false := decide_eq_false h2
          have HN := Lib.hid (show ¬ ((firstAt P i : Int) ≤ x ∧ x < endAt P e i) by rw [HF.out, HE.out]; exact fun h => h2 h.2)
          clear h1 h2
          go_wp2_with fail
          go_roundw
          case rel => exact ⟨i + 1, by omega, by go_num, fun j hj => by
            by_cases ej : j = i
            · subst ej; exact HN.out
            · exact HA.out j (by omega), HK.out⟩
          case measure => simp [intOf]; omega
      · have d2 : decide ((f : Int) ≤ x) = false := decide_eq_false h1
        have HN := Lib.hid (show ¬ ((firstAt P i : Int) ≤ x ∧ x < endAt P e i) by rw [HF.out, HE.out]; exact fun h => h1 h.1)
        clear h1
        go_wp2_with fail
        go_roundw
        case rel => exact ⟨i + 1, by omega, by go_num, fun j hj => by
          by_cases ej : j = i
          · subst ej; exact HN.out
          · exact HA.out j (by omega), HK.out⟩
        case measure => simp [intOf]; omega
    · obtain rfl : i = P.length := by omega
      have d1 : decide (P.length < P.length) = false := by simp
      have HR := Lib.hid (ofR_none HA.out)
      clear hk
      go_wp2_with fail
      go_ret
      rw [HR.out]
      exact ⟨rfl, HK.out.bel⟩
set_option maxRecDepth 100000 in
set_option maxHeartbeats 1000000 in
theorem of_any (P : List (Int × Nat)) (e : Nat) (x : Int) (ab : Option Addr) (cb : Nat) (vm : Value) (ap : Option Addr) (cp : Nat) (w : World) (h : TabAt w ap 3 P.length (progC P e)) (hl : P.length ≤ 1000000) (hend : ∀ i, i < P.length → endAt P e i ≤ e) :
    Calls Try.prog 29 #[.agg #[.slice ab e cb, .slice ap P.length cp, vm], .int .i64 x] w fun y w' => y = .returned (.int .i64 (ofR P e x)) ∧ Below w.heap.size w w' := by
  have H := Lib.hid h
  have K0 := Lib.hid (Keeps.new (Below.refl w.heap.size w) (Nat.le_refl _) 42 #[.slice ab e cb, .slice ap P.length cp, vm])
  have HEND := Lib.hid hend
  clear h hend
  go_enter Try.func29, Try.ntmps29
  by_cases hx : x < 0
  · have d0 : decide (x < 0) = true := decide_eq_true hx
    have HR := Lib.hid (ofR_none (P := P) (n := e) (x := x) fun j hj h => by omega)
    go_wp2_with fail
    go_ret
    rw [HR.out]
    exact ⟨rfl, K0.out.bel⟩
  have d0 : decide (x < 0) = false := decide_eq_false hx
  by_cases hx2 : (e : Int) ≤ x
  · have dd : decide ((e : Int) ≤ x) = true := decide_eq_true hx2
    have HR := Lib.hid (ofR_none (P := P) (n := e) (x := x) fun j hj h => by have := HEND.out j hj; omega)
    go_wp2_with fail
    go_ret
    rw [HR.out]
    exact ⟨rfl, K0.out.bel⟩
  have dd : decide ((e : Int) ≤ x) = false := decide_eq_false hx2
  clear hx hx2
  go_wp2_with fail
  go_loopw [19] (fun s1 wr => ∃ i : Nat, i ≤ P.length ∧ s1 = .int .i64 i ∧ (∀ j, j < i → ¬ ((firstAt P j : Int) ≤ x ∧ x < endAt P e j)) ∧ Keeps w.heap.size w w.heap.size 42 #[.slice ab e cb, .slice ap P.length cp, vm] wr) (fun s1 _ => P.length - (intOf s1).toNat)
  case atStart => exact ⟨0, by omega, rfl, fun j h => by omega, K0.out⟩
  case round =>
    obtain ⟨i, hi, rfl, hall, hk⟩ := hrel
    have HA := Lib.hid hall
    have HK := Lib.hid hk
    have i0 : (0 : Int) ≤ (i : Int) := by omega
    have f1 := hk.blk.cell 1
    clear hall
    by_cases hlt : i < P.length
    · have d1 : decide (i < P.length) = true := by simpa using hlt
      have i1 : (i : Int) < (P.length : Int) := by omega
      obtain ⟨_, b, o, rfl, hb, hc⟩ := H.out i hlt
      have p0 := (hk.bel.cell (p := ⟨b, o + i * 3 + 0, none⟩) hb).trans (hc 0 (by decide))
      have p1 := (hk.bel.cell (p := ⟨b, o + i * 3 + 1, none⟩) hb).trans (hc 1 (by decide))
      have p2 := (hk.bel.cell (p := ⟨b, o + i * 3 + 2, none⟩) hb).trans (hc 2 (by decide))
      simp only [progC, Nat.add_zero] at p0 p1 p2
      have hq1 : (P.getD i (0, 0)).2 = firstAt P i := rfl
      have hq2 : (if i + 1 < P.length then (P.getD (i + 1) (0, 0)).2 else e) = endAt P e i := rfl
      rw [hq1] at p1
      rw [hq2] at p2
      generalize hf : firstAt P i = f at *
      generalize he : endAt P e i = g at *
      generalize (P.getD i (0, 0)).1 = q at *
      have HF := Lib.hid hf
      have HE := Lib.hid he
      have KA := Lib.hid (fun o => HK.out.alloc o)
      clear hc hk hf he hb hq1 hq2
      by_cases h1 : (f : Int) ≤ x
      · have d2 : decide ((f : Int) ≤ x) = true := decide_eq_true h1
        by_cases h2 : x < (g : Int)
        · have d3 : decide (x < (g : Int)) = true := decide_eq_true h2
          have HR := Lib.hid (ofR_at (n := e) hlt (by rw [HF.out]; exact h1) (by rw [HE.out]; exact h2) HA.out)
          clear h1 h2
          go_wp2_with fail
          go_ret
          rw [HR.out]
          exact ⟨rfl, (KA.out _).bel⟩
        · have d3 : decide (x < (g : Int)) = false := decide_eq_false h2
          have HN := Lib.hid (show ¬ ((firstAt P i : Int) ≤ x ∧ x < endAt P e i) by rw [HF.out, HE.out]; exact fun h => h2 h.2)
          clear h1 h2
          go_wp2_with fail
          go_roundw
          case rel => exact ⟨i + 1, by omega, by go_num, fun j hj => by
            by_cases ej : j = i
            · subst ej; exact HN.out
            · exact HA.out j (by omega), KA.out _⟩
          case measure => simp [intOf]; omega
      · have d2 : decide ((f : Int) ≤ x) = false := decide_eq_false h1
        have HN := Lib.hid (show ¬ ((firstAt P i : Int) ≤ x ∧ x < endAt P e i) by rw [HF.out, HE.out]; exact fun h => h1 h.1)
        clear h1
        go_wp2_with fail
        go_roundw
        case rel => exact ⟨i + 1, by omega, by go_num, fun j hj => by
          by_cases ej : j = i
          · subst ej; exact HN.out
          · exact HA.out j (by omega), KA.out _⟩
        case measure => simp [intOf]; omega
    · obtain rfl : i = P.length := by omega
      have d1 : decide (P.length < P.length) = false := by simp
      have HR := Lib.hid (ofR_none HA.out)
      clear hk
      go_wp2_with fail
      go_ret
      rw [HR.out]
      exact ⟨rfl, HK.out.bel⟩

/-! ### Label -/
set_option maxRecDepth 100000 in
set_option maxHeartbeats 1000000 in
theorem label_any (bs : List BlkL) (P : List (Int × Nat)) (pl : Nat → Place) (pg lb : Int) (ab : Option Addr) (cb : Nat) (vm : Value) (ap : Option Addr) (cp : Nat) (w : World) (hB : TabAt w ab 11 bs.length (blksC bs pl)) (hP : TabAt w ap 3 P.length (progC P bs.length))
    (hl : P.length ≤ 1000000) (hl2 : bs.length ≤ 1000000) (hend : ∀ i, i < P.length → endAt P bs.length i ≤ bs.length) :
    Calls Try.prog 30 #[.agg #[.slice ab bs.length cb, .slice ap P.length cp, vm], .int .i64 pg, .int .i64 lb] w fun y w' => y = .returned (.tuple #[.int .i64 ((lookR bs P pg lb).1 : Nat), .bool (lookR bs P pg lb).2]) ∧ Below w.heap.size w w' := by
  have H := Lib.hid hP
  have HB := Lib.hid hB
  have K0 := Lib.hid (Keeps.new (Below.refl w.heap.size w) (Nat.le_refl _) 42 #[.slice ab bs.length cb, .slice ap P.length cp, vm])
  clear hB hP
  have hlook : ∀ b : Nat × Bool, (lb < 1 ∨ pg < 0 ∨ (P.length : Int) ≤ pg) → lookR bs P pg lb = (0, false) := fun _ h => if_pos h
  have HL0 := Lib.hid (hlook (0, false))
  clear hlook
  have HEND := Lib.hid hend
  clear hend
  go_enter Try.func30, Try.ntmps30
  by_cases h1 : lb < 1
  · have d1 : decide (lb < 1) = true := decide_eq_true h1
    have HR := Lib.hid (HL0.out (.inl h1))
    go_wp2_with fail
    go_ret2
    rw [HR.out]
    exact ⟨rfl, K0.out.bel⟩
  have d1 : decide (lb < 1) = false := decide_eq_false h1
  by_cases h2 : pg < 0
  · have d2 : decide (pg < 0) = true := decide_eq_true h2
    have HR := Lib.hid (HL0.out (.inr (.inl h2)))
    go_wp2_with fail
    go_ret2
    rw [HR.out]
    exact ⟨rfl, K0.out.bel⟩
  have d2 : decide (pg < 0) = false := decide_eq_false h2
  by_cases h3 : (P.length : Int) ≤ pg
  · have d3 : decide ((P.length : Int) ≤ pg) = true := decide_eq_true h3
    have HR := Lib.hid (HL0.out (.inr (.inr h3)))
    go_wp2_with fail
    go_ret2
    rw [HR.out]
    exact ⟨rfl, K0.out.bel⟩
  have d3 : decide ((P.length : Int) ≤ pg) = false := decide_eq_false h3
  have HR0 := Lib.hid (show lookR bs P pg lb = labR bs (firstAt P pg.toNat) (endAt P bs.length pg.toNat) lb from if_neg (by omega))
  obtain ⟨k, rfl⟩ : ∃ k : Nat, pg = k := ⟨pg.toNat, by omega⟩
  have HR1 := Lib.hid (show lookR bs P k lb = labR bs (firstAt P k) (endAt P bs.length k) lb from HR0.out)
  have hlt : k < P.length := by omega
  have k0 : (0 : Int) ≤ (k : Int) := by omega
  have k1 : (k : Int) < (P.length : Int) := by omega
  clear h1 h2 h3 HR0 HL0
  obtain ⟨_, b, o, rfl, hb, hc⟩ := H.out k hlt
  have p0 := (K0.out.bel.cell (p := ⟨b, o + k * 3 + 0, none⟩) hb).trans (hc 0 (by decide))
  have p1 := (K0.out.bel.cell (p := ⟨b, o + k * 3 + 1, none⟩) hb).trans (hc 1 (by decide))
  have p2 := (K0.out.bel.cell (p := ⟨b, o + k * 3 + 2, none⟩) hb).trans (hc 2 (by decide))
  simp only [progC, Nat.add_zero] at p0 p1 p2
  have hq1 : (P.getD k (0, 0)).2 = firstAt P k := rfl
  have hq2 : (if k + 1 < P.length then (P.getD (k + 1) (0, 0)).2 else bs.length) = endAt P bs.length k := rfl
  rw [hq1] at p1
  rw [hq2] at p2
  have hge := HEND.out k hlt
  generalize firstAt P k = f at *
  generalize endAt P bs.length k = g at *
  generalize (P.getD k (0, 0)).1 = q at *
  clear hc hb hq1 hq2
  have hmin : min (g : Int) (bs.length : Int) = g := by omega
  have hmax : max (f : Int) 0 = f := by omega
  have f1 := K0.out.blk.cell 1
  have K1 := Lib.hid (K0.out.alloc (.cells #[.int .i64 q, .int .i64 f, .int .i64 g] 55))
  have B1 := Lib.hid (show Blk ((w.alloc (.cells #[.slice ab bs.length cb, .slice (some ⟨b, o, none⟩) P.length cp, vm] 42)).alloc (.cells #[.int .i64 q, .int .i64 f, .int .i64 g] 55)) (w.heap.size + 1) 55 #[.int .i64 q, .int .i64 f, .int .i64 g] by have h := Blk.new (w.alloc (.cells #[.slice ab bs.length cb, .slice (some ⟨b, o, none⟩) P.length cp, vm] 42)) 55 #[.int .i64 q, .int .i64 f, .int .i64 g]; simpa using h)
  go_wp2_with fail
  clear p0 p1 p2 f1
  go_loopw [9] (fun s9 wr => ∃ i : Nat, f ≤ i ∧ (i ≤ g ∨ i = f) ∧ s9 = .int .i64 i ∧ (∀ j, f ≤ j → j < i → labAt bs j ≠ lb) ∧ Keeps w.heap.size w w.heap.size 42 #[.slice ab bs.length cb, .slice (some ⟨b, o, none⟩) P.length cp, vm] wr ∧ Blk wr (w.heap.size + 1) 55 #[.int .i64 q, .int .i64 f, .int .i64 g]) (fun s9 _ => g - (intOf s9).toNat)
  case atStart => exact ⟨f, by omega, .inr rfl, by simp, fun j h1 h2 => by omega, K1.out, B1.out⟩
  case round =>
    obtain ⟨i, hi, hi2, rfl, hall, hk, hbk⟩ := hrel
    have HA := Lib.hid hall
    have HK := Lib.hid hk
    have HBK := Lib.hid hbk
    have i0 : (0 : Int) ≤ (i : Int) := by omega
    have p2 := hbk.cell 2
    clear hall
    by_cases hig : i < g
    · have hlt2 : i < bs.length := by omega
      have i1 : (i : Int) < (bs.length : Int) := by omega
      have d4 : decide (i < g) = true := decide_eq_true hig
      have d4' : decide ((i : Int) < (g : Int)) = true := decide_eq_true (by omega)
      obtain ⟨_, sb, so, rfl, hsb, hcc⟩ := HB.out i hlt2
      have c1 := (hk.bel.cell (p := ⟨sb, so + i * 11 + 1, none⟩) hsb).trans (hcc 1 (by decide))
      have hbb := List.getElem?_eq_getElem hlt2
      have hla : labAt bs i = bs[i].label := by unfold labAt; rw [hbb]
      rw [blksC_at hbb] at c1
      have c1' : wr.cell? ⟨sb, so + i * 11 + 1, none⟩ = some (.int .i64 (labAt bs i)) := by rw [hla]; exact c1
      generalize hl1 : labAt bs i = la at *
      have HLA := Lib.hid hl1
      clear c1 hbb hla hcc hsb hl1
      have f0 := hk.blk.cell 0
      clear hk hbk
      by_cases hle : la = lb
      · have e1 : (la == lb) = true := by simpa using hle
        have HR := Lib.hid (HR1.out.trans (labR_at hig hi (HLA.out.trans hle) HA.out))
        clear hle
        go_wp2_with fail
        go_ret2
        rw [HR.out]
        exact ⟨rfl, HK.out.bel⟩
      · have e1 : (la == lb) = false := by simpa using hle
        have HNE := Lib.hid (show labAt bs i ≠ lb by rw [HLA.out]; exact hle)
        clear hle
        go_wp2_with fail
        go_roundw
        case rel => exact ⟨i + 1, by omega, .inl (by omega), by go_num, fun j h1 h2 => by
          by_cases ej : j = i
          · subst ej; exact HNE.out
          · exact HA.out j h1 (by omega), HK.out, HBK.out⟩
        case measure => simp [intOf]; omega
    · have d4 : decide (i < g) = false := decide_eq_false hig
      have d4' : decide ((i : Int) < (g : Int)) = false := decide_eq_false (by omega)
      have f0 := hk.blk.cell 0
      have HR := Lib.hid (HR1.out.trans (labR_none (bs := bs) (f := f) (e := g) (lb := lb) fun j h1 h2 => HA.out j h1 (by omega)))
      clear hk hbk
      go_wp2_with fail
      go_ret2
      rw [HR.out]
      exact ⟨rfl, HK.out.bel⟩
set_option maxRecDepth 100000 in
set_option maxHeartbeats 1000000 in
theorem rlabel_any (bs : List BlkL) (P : List (Int × Nat)) (pl : Nat → Place) (pg lb : Int) (ab : Option Addr) (cb : Nat) (vm : Value) (ap : Option Addr) (cp : Nat) (w : World) (hB : TabAt w ab 11 bs.length (blksC bs pl)) (hP : TabAt w ap 3 P.length (progC P bs.length))
    (hl : P.length ≤ 1000000) (hl2 : bs.length ≤ 1000000) (hend : ∀ i, i < P.length → endAt P bs.length i ≤ bs.length) :
    Calls Try.prog 32 #[.agg #[.slice ab bs.length cb, .slice ap P.length cp, vm], .int .i64 pg, .int .i64 lb] w fun y w' => y = .returned (.tuple #[.int .i64 ((lookR bs P pg lb).1 : Nat), .bool (lookR bs P pg lb).2]) ∧ Below w.heap.size w w' := by
  have H := Lib.hid hP
  have HB := Lib.hid hB
  have K0 := Lib.hid (Keeps.new (Below.refl w.heap.size w) (Nat.le_refl _) 42 #[.slice ab bs.length cb, .slice ap P.length cp, vm])
  clear hB hP
  have hlook : ∀ b : Nat × Bool, (lb < 1 ∨ pg < 0 ∨ (P.length : Int) ≤ pg) → lookR bs P pg lb = (0, false) := fun _ h => if_pos h
  have HL0 := Lib.hid (hlook (0, false))
  clear hlook
  have HEND := Lib.hid hend
  clear hend
  go_enter Try.func32, Try.ntmps32
  by_cases h2 : pg < 0
  · have d2 : decide (pg < 0) = true := decide_eq_true h2
    have HR := Lib.hid (HL0.out (.inr (.inl h2)))
    go_wp2_with fail
    go_ret2
    rw [HR.out]
    exact ⟨rfl, K0.out.bel⟩
  have d2 : decide (pg < 0) = false := decide_eq_false h2
  by_cases h3 : (P.length : Int) ≤ pg
  · have d3 : decide ((P.length : Int) ≤ pg) = true := decide_eq_true h3
    have HR := Lib.hid (HL0.out (.inr (.inr h3)))
    go_wp2_with fail
    go_ret2
    rw [HR.out]
    exact ⟨rfl, K0.out.bel⟩
  have d3 : decide ((P.length : Int) ≤ pg) = false := decide_eq_false h3
  by_cases h1 : lb < 1
  · have d1 : decide (lb < 1) = true := decide_eq_true h1
    have HR := Lib.hid (HL0.out (.inl h1))
    go_wp2_with fail
    go_ret2
    rw [HR.out]
    exact ⟨rfl, K0.out.bel⟩
  have d1 : decide (lb < 1) = false := decide_eq_false h1
  have HR0 := Lib.hid (show lookR bs P pg lb = labR bs (firstAt P pg.toNat) (endAt P bs.length pg.toNat) lb from if_neg (by omega))
  obtain ⟨k, rfl⟩ : ∃ k : Nat, pg = k := ⟨pg.toNat, by omega⟩
  have HR1 := Lib.hid (show lookR bs P k lb = labR bs (firstAt P k) (endAt P bs.length k) lb from HR0.out)
  have hlt : k < P.length := by omega
  have k0 : (0 : Int) ≤ (k : Int) := by omega
  have k1 : (k : Int) < (P.length : Int) := by omega
  clear h1 h2 h3 HR0 HL0
  obtain ⟨_, b, o, rfl, hb, hc⟩ := H.out k hlt
  have hpp : ∀ W, Below w.heap.size w W → W.cell? ⟨b, o + k * 3 + 1, none⟩ = some (.int .i64 (firstAt P k)) ∧ W.cell? ⟨b, o + k * 3 + 2, none⟩ = some (.int .i64 (endAt P bs.length k)) := fun W hW => by
    have p1 := (hW.cell (p := ⟨b, o + k * 3 + 1, none⟩) hb).trans (hc 1 (by decide))
    have p2 := (hW.cell (p := ⟨b, o + k * 3 + 2, none⟩) hb).trans (hc 2 (by decide))
    simp only [progC] at p1 p2
    exact ⟨p1, p2⟩
  have hge := HEND.out k hlt
  generalize firstAt P k = f at *
  generalize endAt P bs.length k = g at *
  have HPP := Lib.hid hpp
  clear hc hb hpp
  have f1 := K0.out.blk.cell 1
  have p1 := (HPP.out _ K0.out.bel).1
  go_wp2_with fail
  clear p1 f1
  go_loopw [8] (fun s9 wr => ∃ i : Nat, f ≤ i ∧ (i ≤ g ∨ i = f) ∧ s9 = .int .i64 i ∧ (∀ j, f ≤ j → j < i → labAt bs j ≠ lb) ∧ Keeps w.heap.size w w.heap.size 42 #[.slice ab bs.length cb, .slice (some ⟨b, o, none⟩) P.length cp, vm] wr) (fun s9 _ => g - (intOf s9).toNat)
  case atStart => exact ⟨f, by omega, .inr rfl, rfl, fun j h1 h2 => by omega, K0.out⟩
  case round =>
    obtain ⟨i, hi, hi2, rfl, hall, hk⟩ := hrel
    have HA := Lib.hid hall
    have HK := Lib.hid hk
    have i0 : (0 : Int) ≤ (i : Int) := by omega
    have p2 := (HPP.out _ hk.bel).2
    have f1 := hk.blk.cell 1
    clear hall
    by_cases hig : i < g
    · have hlt2 : i < bs.length := by omega
      have i1 : (i : Int) < (bs.length : Int) := by omega
      have d4 : decide (i < g) = true := decide_eq_true hig
      have d4' : decide ((i : Int) < (g : Int)) = true := decide_eq_true (by omega)
      obtain ⟨_, sb, so, rfl, hsb, hcc⟩ := HB.out i hlt2
      have c1 := (hk.bel.cell (p := ⟨sb, so + i * 11 + 1, none⟩) hsb).trans (hcc 1 (by decide))
      have hbb := List.getElem?_eq_getElem hlt2
      have hla : labAt bs i = bs[i].label := by unfold labAt; rw [hbb]
      rw [blksC_at hbb] at c1
      have c1' : wr.cell? ⟨sb, so + i * 11 + 1, none⟩ = some (.int .i64 (labAt bs i)) := by rw [hla]; exact c1
      generalize hl1 : labAt bs i = la at *
      have HLA := Lib.hid hl1
      clear c1 hbb hla hcc hsb hl1
      have f0 := hk.blk.cell 0
      clear hk
      by_cases hle : la = lb
      · have e1 : (la == lb) = true := by simpa using hle
        have HR := Lib.hid (HR1.out.trans (labR_at hig hi (HLA.out.trans hle) HA.out))
        clear hle
        go_wp2_with fail
        go_ret2
        rw [HR.out]
        exact ⟨rfl, HK.out.bel⟩
      · have e1 : (la == lb) = false := by simpa using hle
        have HNE := Lib.hid (show labAt bs i ≠ lb by rw [HLA.out]; exact hle)
        clear hle
        go_wp2_with fail
        go_roundw
        case rel => exact ⟨i + 1, by omega, .inl (by omega), by go_num, fun j h1 h2 => by
          by_cases ej : j = i
          · subst ej; exact HNE.out
          · exact HA.out j h1 (by omega), HK.out⟩
        case measure => simp [intOf]; omega
    · have d4 : decide (i < g) = false := decide_eq_false hig
      have d4' : decide ((i : Int) < (g : Int)) = false := decide_eq_false (by omega)
      have HR := Lib.hid (HR1.out.trans (labR_none (bs := bs) (f := f) (e := g) (lb := lb) fun j h1 h2 => HA.out j h1 (by omega)))
      clear hk
      go_wp2_with fail
      go_ret2
      rw [HR.out]
      exact ⟨rfl, HK.out.bel⟩
end Go.Proofs.Yteiogjgmedikhaa

namespace Go.Proofs.Yteiogjgmedikhaa
open Go Go.RowKit
set_option linter.unusedVariables false

theorem runB_succ {bs : List BlkL} {i : Nat} {s : StL} (h : runB bs (i + 1) = .ok s) (hi : i < bs.length) : ∃ s0 b, runB bs i = .ok s0 ∧ bs[i]? = some b ∧ stepB bs b i s0 = .ok s := by
  unfold runB at h
  cases hr : runB bs i with
  | err a e => rw [hr] at h; cases h
  | ok s0 =>
    rw [hr] at h
    have hb : bs[i]? = some bs[i] := List.getElem?_eq_getElem hi
    simp only [hb] at h
    exact ⟨s0, bs[i], rfl, hb, h⟩
/-- The three ways of a step. -/
theorem stepB_ok {bs : List BlkL} {b : BlkL} {i : Nat} {s s' : StL} (h : stepB bs b i s = .ok s') :
    (b.kind = 4 ∧ s' = ⟨progsB b i s, s.mate ++ [-1], s.op ++ [i]⟩) ∨
    (b.kind = 5 ∧ s.op ≠ [] ∧ nOf bs (topOf s.op) = b.n ∧ s' = ⟨progsB b i s, ((s.mate ++ [-1]).set (topOf s.op) i).set i (topOf s.op), s.op.dropLast⟩) ∨
    (b.kind ≠ 4 ∧ b.kind ≠ 5 ∧ s' = ⟨progsB b i s, s.mate ++ [-1], s.op⟩) := by
  unfold stepB at h
  split at h
  · cases h
  split at h
  · cases h
  split at h
  · cases h
  split at h
  · rename_i h4
    split at h
    · cases h
    · injection h with h; exact .inl ⟨h4, h.symm⟩
  split at h
  · rename_i h5
    split at h
    · cases h
    · rename_i hn
      injection h with h
      refine .inr (.inl ⟨h5, fun e => hn (.inl e), ?_, h.symm⟩)
      exact Decidable.byContradiction fun e => hn (.inr e)
  · rename_i h4 h5
    injection h with h
    exact .inr (.inr ⟨h4, h5, h.symm⟩)
/-! ### The programs -/
structure PInv (i : Nat) (P : List (Int × Nat)) : Prop where
  asc : P.Pairwise (fun a b => a.2 ≤ b.2)
  le : ∀ p ∈ P, p.2 ≤ i
theorem PInv.mono {i j : Nat} {P : List (Int × Nat)} (h : PInv i P) (hij : i ≤ j) : PInv j P := ⟨h.asc, fun p hp => Nat.le_trans (h.le p hp) hij⟩
theorem PInv.step {i : Nat} {b : BlkL} {s : StL} (h : PInv i s.progs) : PInv (i + 1) (progsB b i s) := by
  unfold progsB
  split
  · refine ⟨List.pairwise_append.2 ⟨h.asc, by simp, fun a ha c hc => ?_⟩, fun p hp => ?_⟩
    · simp at hc; subst hc; exact h.le a ha
    · rcases List.mem_append.1 hp with hp | hp
      · have := h.le p hp; omega
      · simp at hp; subst hp; simp
  · exact h.mono (by omega)
theorem progs_inv {bs : List BlkL} : ∀ (i : Nat) (s : StL), i ≤ bs.length → runB bs i = .ok s → PInv i s.progs
  | 0, s, _, h => by
    unfold runB at h
    injection h with h
    subst h
    exact ⟨by simp, by simp⟩
  | i + 1, s, hi, h => by
    obtain ⟨s0, b, hr, hb, hs⟩ := runB_succ h hi
    have := (progs_inv i s0 (by omega) hr).step (b := b)
    rcases stepB_ok hs with ⟨_, rfl⟩ | ⟨_, _, _, rfl⟩ | ⟨_, _, rfl⟩ <;> exact this
theorem PInv.end_le {n : Nat} {P : List (Int × Nat)} (h : PInv n P) : ∀ i, i < P.length → endAt P n i ≤ n := by
  intro i hi
  unfold endAt
  split
  · rename_i h1
    have := h.le (P[i + 1]) (List.getElem_mem h1)
    simpa [List.getD, h1] using this
  · exact Nat.le_refl _
theorem PInv.first_le {n : Nat} {P : List (Int × Nat)} (h : PInv n P) : ∀ i, i < P.length → firstAt P i ≤ endAt P n i := by
  intro i hi
  unfold firstAt endAt
  split
  · rename_i h1
    have := List.pairwise_iff_getElem.1 h.asc i (i + 1) hi h1 (by omega)
    simpa [List.getD, h1, hi] using this
  · have := h.le (P[i]) (List.getElem_mem hi)
    simpa [List.getD, hi] using this
/-! ### The mates -/
structure MInv (bs : List BlkL) (i : Nat) (s : StL) : Prop where
  len : s.mate.length = i
  op4 : ∀ w ∈ s.op, w < i ∧ kindAt bs w = 4 ∧ s.mate.getD w (-1) = -1
  asc : s.op.Pairwise (· < ·)
  none : ∀ w, w < i → kindAt bs w ≠ 4 → kindAt bs w ≠ 5 → s.mate.getD w (-1) = -1
  four : ∀ w, w < i → kindAt bs w = 4 → w ∈ s.op ∨ ∃ m : Nat, s.mate.getD w (-1) = m
  five : ∀ w, w < i → kindAt bs w = 5 → ∃ m : Nat, s.mate.getD w (-1) = m
  pair : ∀ w m : Nat, w < i → s.mate.getD w (-1) = (m : Int) → m < i ∧ s.mate.getD m (-1) = (w : Int) ∧ nOf bs m = nOf bs w ∧ ((kindAt bs w = 4 ∧ kindAt bs m = 5 ∧ w < m) ∨ (kindAt bs w = 5 ∧ kindAt bs m = 4 ∧ m < w))
  opn : ∀ w ∈ s.op, ∀ k m : Nat, w < k → k < i → s.mate.getD k (-1) = (m : Int) → w < m
  out : ∀ t ∈ s.op, ∀ w m : Nat, w < i → s.mate.getD w (-1) = (m : Int) → w < t → ¬ t < m
  nest : ∀ w m k j : Nat, w < k → k < m → m < i → s.mate.getD w (-1) = (m : Int) → s.mate.getD k (-1) = (j : Int) → w < j ∧ j < m
theorem kindAt_of {bs : List BlkL} {i : Nat} {b : BlkL} (h : bs[i]? = some b) : kindAt bs i = b.kind := by unfold kindAt; rw [h]
theorem nOf_of {bs : List BlkL} {i : Nat} {b : BlkL} (h : bs[i]? = some b) : nOf bs i = b.n := by unfold nOf; rw [h]
theorem getD_snoc_lt {M : List Int} {w : Nat} (h : w < M.length) : (M ++ [-1]).getD w (-1) = M.getD w (-1) := by simp [List.getD, List.getElem?_append_left h]
theorem getD_snoc_at {M : List Int} : (M ++ [-1]).getD M.length (-1) = -1 := by simp [List.getD]
theorem MInv.plain {bs : List BlkL} {i : Nat} {s : StL} {P : List (Int × Nat)} {b : BlkL} (h : MInv bs i s) (hb : bs[i]? = some b) (h4 : b.kind ≠ 4) (h5 : b.kind ≠ 5) : MInv bs (i + 1) ⟨P, s.mate ++ [-1], s.op⟩ := by
  have hk := kindAt_of hb
  have hlt : ∀ w, w < i → (s.mate ++ [-1]).getD w (-1) = s.mate.getD w (-1) := fun w hw => getD_snoc_lt (by rw [h.len]; exact hw)
  have hat : (s.mate ++ [-1]).getD i (-1) = -1 := by have := getD_snoc_at (M := s.mate); rw [h.len] at this; exact this
  have hno : ∀ (w m : Nat), w < i + 1 → (s.mate ++ [-1]).getD w (-1) = (m : Int) → w < i := fun w m hw e => by
    rcases Nat.lt_or_ge w i with h1 | h1
    · exact h1
    · obtain rfl : w = i := by omega
      rw [hat] at e; omega
  refine ⟨by simp [h.len], fun w hw => ?_, h.asc, fun w hw k4 k5 => ?_, fun w hw k4 => ?_, fun w hw k5 => ?_, fun w m hw e => ?_, fun w hw k m h1 h2 e => ?_, fun t ht w m h1 e => ?_, fun w m k j h1 h2 h3 e1 e2 => ?_⟩
  · have := h.op4 w hw; exact ⟨by omega, this.2.1, by simp only; rw [hlt w this.1]; exact this.2.2⟩
  · rcases Nat.lt_or_ge w i with h1 | h1
    · simp only; rw [hlt w h1]; exact h.none w h1 k4 k5
    · obtain rfl : w = i := by omega
      exact hat
  · rcases Nat.lt_or_ge w i with h1 | h1
    · simp only; rw [hlt w h1]; exact h.four w h1 k4
    · obtain rfl : w = i := by omega
      exact absurd (hk.symm.trans k4) h4
  · rcases Nat.lt_or_ge w i with h1 | h1
    · simp only; rw [hlt w h1]; exact h.five w h1 k5
    · obtain rfl : w = i := by omega
      exact absurd (hk.symm.trans k5) h5
  · have h1 := hno w m hw e
    simp only at e ⊢
    rw [hlt w h1] at e
    have := h.pair w m h1 e
    rw [hlt m this.1]
    exact ⟨by omega, this.2⟩
  · have h3 := hno k m h2 e
    simp only at e
    rw [hlt k h3] at e
    exact h.opn w hw k m h1 h3 e
  · have h3 := hno w m h1 e
    simp only at e
    rw [hlt w h3] at e
    exact h.out t ht w m h3 e
  · have hw := hno w m (by omega) e1
    have hk := hno k j (by omega) e2
    simp only at e1 e2
    rw [hlt w hw] at e1
    rw [hlt k hk] at e2
    have := (h.pair w m hw e1).1
    exact h.nest w m k j h1 h2 this e1 e2
theorem MInv.whil {bs : List BlkL} {i : Nat} {s : StL} {P : List (Int × Nat)} {b : BlkL} (h : MInv bs i s) (hb : bs[i]? = some b) (h4 : b.kind = 4) : MInv bs (i + 1) ⟨P, s.mate ++ [-1], s.op ++ [i]⟩ := by
  have hk := kindAt_of hb
  have hlt : ∀ w, w < i → (s.mate ++ [-1]).getD w (-1) = s.mate.getD w (-1) := fun w hw => getD_snoc_lt (by rw [h.len]; exact hw)
  have hat : (s.mate ++ [-1]).getD i (-1) = -1 := by have := getD_snoc_at (M := s.mate); rw [h.len] at this; exact this
  have hno : ∀ (w m : Nat), w < i + 1 → (s.mate ++ [-1]).getD w (-1) = (m : Int) → w < i := fun w m hw e => by
    rcases Nat.lt_or_ge w i with h1 | h1
    · exact h1
    · obtain rfl : w = i := by omega
      rw [hat] at e; omega
  refine ⟨by simp [h.len], fun w hw => ?_, ?_, fun w hw k4 k5 => ?_, fun w hw k4 => ?_, fun w hw k5 => ?_, fun w m hw e => ?_, fun w hw k m h1 h2 e => ?_, fun t ht w m h1 e => ?_, fun w m k j h1 h2 h3 e1 e2 => ?_⟩
  · rcases List.mem_append.1 hw with hw | hw
    · have := h.op4 w hw; exact ⟨by omega, this.2.1, by simp only; rw [hlt w this.1]; exact this.2.2⟩
    · simp at hw; subst hw; exact ⟨by omega, hk.trans h4, hat⟩
  · refine List.pairwise_append.2 ⟨h.asc, by simp, fun a ha c hc => ?_⟩
    simp at hc; subst hc; exact (h.op4 a ha).1
  · rcases Nat.lt_or_ge w i with h1 | h1
    · simp only; rw [hlt w h1]; exact h.none w h1 k4 k5
    · obtain rfl : w = i := by omega
      exact hat
  · rcases Nat.lt_or_ge w i with h1 | h1
    · simp only; rw [hlt w h1]
      rcases h.four w h1 k4 with h2 | h2
      · exact .inl (List.mem_append_left _ h2)
      · exact .inr h2
    · obtain rfl : w = i := by omega
      exact .inl (by simp)
  · rcases Nat.lt_or_ge w i with h1 | h1
    · simp only; rw [hlt w h1]; exact h.five w h1 k5
    · obtain rfl : w = i := by omega
      omega
  · have h1 := hno w m hw e
    simp only at e ⊢
    rw [hlt w h1] at e
    have := h.pair w m h1 e
    rw [hlt m this.1]
    exact ⟨by omega, this.2⟩
  · have h3 := hno k m h2 e
    simp only at e
    rw [hlt k h3] at e
    rcases List.mem_append.1 hw with hw | hw
    · exact h.opn w hw k m h1 h3 e
    · simp at hw; omega
  · have h3 := hno w m h1 e
    simp only at e
    rw [hlt w h3] at e
    rcases List.mem_append.1 ht with ht | ht
    · exact h.out t ht w m h3 e
    · simp at ht
      have := (h.pair w m h3 e).1
      omega
  · have hw := hno w m (by omega) e1
    have hk := hno k j (by omega) e2
    simp only at e1 e2
    rw [hlt w hw] at e1
    rw [hlt k hk] at e2
    have := (h.pair w m hw e1).1
    exact h.nest w m k j h1 h2 this e1 e2
theorem getD_set2 {M : List Int} {t i : Nat} (hM : M.length = i) (ht : t < i) (w : Nat) : (((M ++ [-1]).set t (i : Int)).set i (t : Int)).getD w (-1) = if w = t then (i : Int) else if w = i then (t : Int) else M.getD w (-1) := by
  simp only [List.getD, List.getElem?_set, List.length_set, List.length_append, List.length_singleton, hM]
  by_cases h1 : w = i
  · subst h1
    rw [if_pos rfl, if_pos (by omega), if_neg (by omega), if_pos rfl]; rfl
  · rw [if_neg (by omega)]
    by_cases h2 : w = t
    · subst h2
      rw [if_pos rfl, if_pos (by omega), if_pos rfl]; rfl
    · rw [if_neg (by omega), if_neg h2, if_neg h1]
      rcases Nat.lt_or_ge w i with h3 | h3
      · rw [List.getElem?_append_left (by omega)]
      · rw [List.getElem?_eq_none (by simp; omega), List.getElem?_eq_none (by omega)]
theorem mem_dropLast_lt {l : List Nat} (h : l.Pairwise (· < ·)) (hne : l ≠ []) : ∀ w ∈ l.dropLast, w < topOf l := by
  intro w hw
  have e : l = l.dropLast ++ [topOf l] := by
    unfold topOf
    rw [List.getLast?_eq_some_getLast hne]
    exact (List.dropLast_concat_getLast hne).symm
  rw [e] at h
  exact (List.pairwise_append.1 h).2.2 w hw _ (by simp)
theorem MInv.close {bs : List BlkL} {i : Nat} {s : StL} {P : List (Int × Nat)} {b : BlkL} (h : MInv bs i s) (hb : bs[i]? = some b) (h5 : b.kind = 5) (hne : s.op ≠ []) (hn : nOf bs (topOf s.op) = b.n) :
    MInv bs (i + 1) ⟨P, ((s.mate ++ [-1]).set (topOf s.op) i).set i (topOf s.op), s.op.dropLast⟩ := by
  have hk := kindAt_of hb
  have hni := nOf_of hb
  obtain ⟨ht1, ht2, ht3⟩ := h.op4 _ (topOf_mem hne)
  have htm := topOf_mem hne
  have hlow := mem_dropLast_lt h.asc hne
  generalize topOf s.op = t at *
  have hg := getD_set2 h.len ht1
  have hsub : ∀ w ∈ s.op.dropLast, w ∈ s.op := fun w hw => List.dropLast_subset _ hw
  generalize hM' : (((s.mate ++ [-1]).set t (i : Int)).set i (t : Int)) = M' at *
  have hno : ∀ (w m : Nat), w < i + 1 → M'.getD w (-1) = (m : Int) → (w = t ∧ m = i) ∨ (w = i ∧ m = t) ∨ (w < i ∧ w ≠ t ∧ m ≠ t ∧ s.mate.getD w (-1) = (m : Int)) := fun w m hw e => by
    rw [hg w] at e
    by_cases h1 : w = t
    · rw [if_pos h1] at e; exact .inl ⟨h1, by omega⟩
    · rw [if_neg h1] at e
      by_cases h2 : w = i
      · rw [if_pos h2] at e; exact .inr (.inl ⟨h2, by omega⟩)
      · rw [if_neg h2] at e
        have hwi : w < i := by omega
        refine .inr (.inr ⟨hwi, h1, fun e2 => ?_, e⟩)
        subst e2
        have := (h.pair w m hwi e).2.1
        omega
  refine ⟨by rw [← hM']; simp [h.len], fun w hw => ?_, h.asc.sublist (List.dropLast_sublist _), fun w hw k4 k5 => ?_, fun w hw k4 => ?_, fun w hw k5 => ?_, fun w m hw e => ?_, fun w hw k m h1 h2 e => ?_, fun t' ht' w m h1 e h2 => ?_, fun w m k j h1 h2 h3 e1 e2 => ?_⟩
  · have h1 := h.op4 w (hsub w hw)
    have h2 := hlow w hw
    refine ⟨by omega, h1.2.1, ?_⟩
    show M'.getD w (-1) = -1
    rw [hg w, if_neg (by omega), if_neg (by omega)]
    exact h1.2.2
  · show M'.getD w (-1) = -1
    have h1 : w ≠ t := fun e => k4 (e ▸ ht2)
    have h2 : w ≠ i := fun e => k5 (by rw [e, hk, h5])
    rw [hg w, if_neg h1, if_neg h2]
    exact h.none w (by omega) k4 k5
  · show w ∈ s.op.dropLast ∨ ∃ m : Nat, M'.getD w (-1) = m
    rw [hg w]
    by_cases h1 : w = t
    · rw [if_pos h1]; exact .inr ⟨i, rfl⟩
    · have h2 : w ≠ i := fun e => by rw [e, hk, h5] at k4; omega
      rw [if_neg h1, if_neg h2]
      rcases h.four w (by omega) k4 with h3 | h3
      · refine .inl ?_
        have e : s.op = s.op.dropLast ++ [s.op.getLast hne] := (List.dropLast_concat_getLast hne).symm
        rw [e] at h3
        rcases List.mem_append.1 h3 with h3 | h3
        · exact h3
        · exfalso
          simp at h3
          have : t ∈ s.op := htm
          rcases Nat.lt_trichotomy w t with h4 | h4 | h4
          · rw [e] at this
            rcases List.mem_append.1 this with h6 | h6
            · have := hlow t h6; omega
            · simp at h6; omega
          · exact h1 h4
          · rw [e] at this
            rcases List.mem_append.1 this with h6 | h6
            · have := hlow t h6; omega
            · simp at h6; omega
      · exact .inr h3
  · show ∃ m : Nat, M'.getD w (-1) = m
    rw [hg w]
    by_cases h1 : w = t
    · rw [h1, ht2] at k5; omega
    · rw [if_neg h1]
      by_cases h2 : w = i
      · rw [if_pos h2]; exact ⟨t, rfl⟩
      · rw [if_neg h2]; exact h.five w (by omega) k5
  · show m < i + 1 ∧ M'.getD m (-1) = (w : Int) ∧ _
    rcases hno w m hw e with ⟨rfl, rfl⟩ | ⟨rfl, rfl⟩ | ⟨h1, h2, h3, e⟩
    · refine ⟨by omega, by rw [hg, if_neg (by omega), if_pos rfl], by rw [hni, hn], .inl ⟨ht2, hk.trans h5, ht1⟩⟩
    · refine ⟨by omega, by rw [hg, if_pos rfl], by rw [hni, hn], .inr ⟨hk.trans h5, ht2, ht1⟩⟩
    · have := h.pair w m h1 e
      refine ⟨by omega, by rw [hg, if_neg h3, if_neg (by omega)]; exact this.2.1, this.2.2⟩
  · have hwt := hlow w hw
    rcases hno k m h2 e with ⟨rfl, rfl⟩ | ⟨rfl, rfl⟩ | ⟨h3, h4, h5', e⟩
    · omega
    · exact hwt
    · exact h.opn w (hsub w hw) k m h1 h3 e
  · have hwt := hlow t' ht'
    rcases hno w m h1 e with ⟨rfl, rfl⟩ | ⟨rfl, rfl⟩ | ⟨h3, h4, h5', e⟩
    · omega
    · omega
    · exact h.out t' (hsub t' ht') w m h3 e h2
  · rcases hno w m (by omega) e1 with ⟨rfl, rfl⟩ | ⟨rfl, rfl⟩ | ⟨a1, a2, a3, e1⟩
    · rcases hno k j (by omega) e2 with ⟨rfl, rfl⟩ | ⟨rfl, rfl⟩ | ⟨b1, b2, b3, e2⟩
      · omega
      · omega
      · exact ⟨h.opn w htm k j h1 b1 e2, (h.pair k j b1 e2).1⟩
    · omega
    · have hm := (h.pair w m a1 e1).1
      rcases hno k j (by omega) e2 with ⟨rfl, rfl⟩ | ⟨rfl, rfl⟩ | ⟨b1, b2, b3, e2⟩
      · exact absurd h2 (h.out k htm w m a1 e1 h1)
      · omega
      · exact h.nest w m k j h1 h2 hm e1 e2
theorem mates_inv {bs : List BlkL} : ∀ (i : Nat) (s : StL), i ≤ bs.length → runB bs i = .ok s → MInv bs i s
  | 0, s, _, h => by
    unfold runB at h
    injection h with h
    subst h
    exact ⟨rfl, by simp, by simp, fun w hw => by omega, fun w hw => by omega, fun w hw => by omega, fun w m hw => by omega, by simp, by simp, fun w m k j _ _ hw => by omega⟩
  | i + 1, s, hi, h => by
    obtain ⟨s0, b, hr, hb, hs⟩ := runB_succ h hi
    have h0 := mates_inv i s0 (by omega) hr
    rcases stepB_ok hs with ⟨h4, rfl⟩ | ⟨h5, hne, hn, rfl⟩ | ⟨h4, h5, rfl⟩
    · exact h0.whil hb h4
    · exact h0.close hb h5 hne hn
    · exact h0.plain hb h4 h5
/-- Where a mate lies behind, a loop begins. -/
theorem MInv.ahead {bs : List BlkL} {i : Nat} {s : StL} (h : MInv bs i s) {w : Nat} {x : Int} (h1 : (w : Int) < x) (h2 : x ≤ s.mate.getD w (-1)) : kindAt bs w = 4 := by
  have hw : w < i := by
    rcases Nat.lt_or_ge w i with h3 | h3
    · exact h3
    · rw [show s.mate.getD w (-1) = -1 by simp [List.getD, List.getElem?_eq_none (show s.mate.length ≤ w by rw [h.len]; exact h3)]] at h2
      omega
  obtain ⟨m, hm⟩ : ∃ m : Nat, s.mate.getD w (-1) = m := ⟨(s.mate.getD w (-1)).toNat, by omega⟩
  rcases (h.pair w m hw hm).2.2.2 with h3 | h3
  · exact h3.1
  · omega
/-- What buildB tells. -/
theorem buildB_ok {bs : List BlkL} {s : StL} (h : buildB bs = .ok s) : bs.length ≤ 2000 ∧ (∀ (i : Nat) (b : BlkL), bs[i]? = some b → validB b = true) ∧ runB bs bs.length = .ok s ∧ s.op = [] := by
  unfold buildB at h
  split at h
  · cases h
  split at h
  · cases h
  rename_i h1 h2
  cases hr : runB bs bs.length with
  | err a e => rw [hr] at h; cases h
  | ok s0 =>
    rw [hr] at h
    simp only at h
    split at h
    · rename_i ho
      injection h with h
      subst h
      exact ⟨by omega, fun i b hb => badB_spec bs i b hb (by have := (List.getElem?_eq_some_iff.1 hb).1; omega), rfl, ho⟩
    · cases h
end Go.Proofs.Yteiogjgmedikhaa

namespace Go.Proofs.Yteiogjgmedikhaa
open Go Go.RowKit
set_option linter.unusedVariables false

def inR (M : List Int) (n : Nat) (x : Int) : List Int := if x < 0 ∨ (n : Int) ≤ x then [] else insR M x n
/-- The list so far. -/
structure InAt (w : World) (cs : Array Value) (L : List Int) (v : Value) (wr : World) : Prop where
  k : Keeps w.heap.size w w.heap.size 42 cs wr
  own : wr.ownsRow (w.heap.size + 1) 3 1 v L.length (flat (intC L) L.length)
theorem InAt.push {w : World} {cs : Array Value} {L : List Int} {v : Value} {wr : World} (h : InAt w cs L v wr) {x : Int} {o : Obj} {g c : Nat} {w2 : World} (hp : Pushed (wr.alloc o) (w.heap.size + 1) 3 1 v L.length (intC L) [.int .i64 x] g c w2) :
    InAt w cs (L ++ [x]) (.slice (some ⟨g, 0, none⟩) (L.length + 1) c) w2 := by
  have h1 := h.k.alloc o
  have hrow := fun q e => h.own.lt q e
  refine ⟨⟨h1.blk.grown hp.grown (fun e => by have := hrow _ e.symm; omega), h1.bel.trans (below_of_grown hp.grown h1.size (fun q e => by have := hrow q e; omega)), Nat.le_trans h1.size hp.grown.size⟩, ?_⟩
  have := hp.own
  rw [intC_snoc] at this
  rw [List.length_append]
  exact this
theorem InAt.alloc {w : World} {cs : Array Value} {L : List Int} {v : Value} {wr : World} (h : InAt w cs L v wr) (o : Obj) : (wr.alloc o).ownsRow (w.heap.size + 1) 3 1 v L.length (flat (intC L) L.length) := h.own.alloc o
def InPost (L : List Int) (w : World) (e : Ending) (w' : World) : Prop := ∃ a cap, e = .returned (.slice a L.length cap) ∧ RowAt (fun q => w.heap.size ≤ q) w' 3 1 L.length (intC L) a ∧ Below w.heap.size w w'
theorem InAt.done {w : World} {cs : Array Value} {L : List Int} {v : Value} {wr : World} (h : InAt w cs L v wr) : ∃ a cap, v = .slice a L.length cap ∧ RowAt (fun q => w.heap.size ≤ q) wr 3 1 L.length (intC L) a ∧ Below w.heap.size w wr := by
  obtain ⟨a, cap, e, hrow, _⟩ := RowAt.of_own h.own (fun i _ => intC_len L i)
  exact ⟨a, cap, e, hrow.imp fun q hq _ => by omega, h.k.bel⟩
set_option maxRecDepth 100000 in
set_option maxHeartbeats 1000000 in
theorem inside_any (M : List Int) (x : Int) (ab : Option Addr) (cb : Nat) (vp : Value) (am : Option Addr) (cm : Nat) (w : World) (hM : TabAt w am 1 M.length (intC M)) (hl : M.length ≤ 1000000) :
    Calls Try.prog 26 #[.agg #[.slice ab M.length cb, vp, .slice am M.length cm], .int .i64 x] w (InPost (inR M M.length x) w) := by
  have H := Lib.hid hM
  have K0 := Lib.hid (show InAt w #[.slice ab M.length cb, vp, .slice am M.length cm] [] (.slice none 0 0) (w.alloc (.cells #[.slice ab M.length cb, vp, .slice am M.length cm] 42)) from ⟨Keeps.new (Below.refl w.heap.size w) (Nat.le_refl _) 42 #[.slice ab M.length cb, vp, .slice am M.length cm], World.ownsRow_nil _ _ _ _⟩)
  have HI0 := Lib.hid (fun h : x < 0 ∨ (M.length : Int) ≤ x => show inR M M.length x = [] from if_pos h)
  have HI1 := Lib.hid (fun h : ¬ (x < 0 ∨ (M.length : Int) ≤ x) => show inR M M.length x = insR M x M.length from if_neg h)
  clear hM
  go_enter Try.func26, Try.ntmps26
  by_cases hx : x < 0
  · have d0 : decide (x < 0) = true := decide_eq_true hx
    have HR := Lib.hid (HI0.out (.inl hx))
    go_wp2_with fail
    go_ret
    rw [HR.out]
    exact ⟨none, 0, rfl, .inl rfl, K0.out.k.bel⟩
  have d0 : decide (x < 0) = false := decide_eq_false hx
  by_cases hx2 : (M.length : Int) ≤ x
  · have dd : decide ((M.length : Int) ≤ x) = true := decide_eq_true hx2
    have HR := Lib.hid (HI0.out (.inr hx2))
    go_wp2_with fail
    go_ret
    rw [HR.out]
    exact ⟨none, 0, rfl, .inl rfl, K0.out.k.bel⟩
  have dd : decide ((M.length : Int) ≤ x) = false := decide_eq_false hx2
  have HR := Lib.hid (HI1.out (by omega))
  clear HI0 HI1
  have f2 := K0.out.k.blk.cell 2
  go_wp2_with fail
  go_loopw [5, 20] (fun s5 s20 wr => ∃ i : Nat, i ≤ M.length ∧ s20 = .int .i64 i ∧ ∃ v, v = s5 ∧ InAt w #[.slice ab M.length cb, vp, .slice am M.length cm] (insR M x i) v wr) (fun _ s _ => M.length - (intOf s).toNat)
  case atStart => exact ⟨0, by omega, rfl, _, rfl, K0.out⟩
  case round =>
    obtain ⟨i, hi, rfl, v, rfl, hat⟩ := hrel
    rename World => wr
    have HA := Lib.hid hat
    have i0 : (0 : Int) ≤ (i : Int) := by omega
    by_cases hlt : i < M.length
    · have d1 : decide (i < M.length) = true := by simpa using hlt
      have i1 : (i : Int) < (M.length : Int) := by omega
      obtain ⟨_, b, o, rfl, hb, hc⟩ := H.out i hlt
      have m0 : wr.cell? ⟨b, o + i, none⟩ = some (.int .i64 (M.getD i 0)) := by
        have := (hat.k.bel.cell (p := ⟨b, o + i * 1 + 0, none⟩) hb).trans (hc 0 (by decide))
        simpa [intC] using this
      have hgd : M.getD i (-1) = M.getD i 0 := by simp [List.getD, List.getElem?_eq_getElem hlt]
      have hsucc := insR_succ M x i
      rw [hgd] at hsucc
      generalize M.getD i 0 = mv at *
      have HS := Lib.hid hsucc
      clear hc hgd hsucc hb
      have OW := Lib.hid (hat.alloc (.cells #[.int .i64 i] 3))
      clear hat
      by_cases h1 : (i : Int) < x
      · have e1 : decide ((i : Int) < x) = true := decide_eq_true h1
        by_cases h2 : x ≤ mv
        · have e2 : decide (x ≤ mv) = true := decide_eq_true h2
          have HS := Lib.hid (HS.out.trans (by rw [if_pos ⟨h1, h2⟩]))
          clear h1 h2
          go_wp2_with (at_builtin; refine wpList_push rfl (.tmp 33) (.tmp 35) 23 rfl (w.heap.size + 1) 3 (.int .i64 0) 1 8 Try.underlying23 infoInt rfl (by decide) (by decide) v (insR M x i).length (intC (insR M x i)) rfl OW.out wr.heap.size [.int .i64 i] rfl (Blk.new wr 3 _) rfl (by simp [Value.oneCell']) ?c0 ?c1 ?c2)
          case c0 => have := insR_len M x i; omega
          case c1 => have := HA.out.k.blk.lt; simp; omega
          case c2 =>
            intro gg cc w2 hp
            have H9 := Lib.hid (HA.out.push hp)
            clear hp
            go_wp2_with fail
            go_roundw
            case rel => exact ⟨i + 1, by omega, by go_num, _, rfl, by rw [HS.out]; exact H9.out⟩
            case measure => simp [intOf]; omega
        · have e2 : decide (x ≤ mv) = false := decide_eq_false h2
          have HS := Lib.hid (HS.out.trans (by rw [if_neg (fun h => h2 h.2), List.append_nil]))
          clear h1 h2
          go_wp2_with fail
          go_roundw
          case rel => exact ⟨i + 1, by omega, by go_num, _, rfl, by rw [HS.out]; exact HA.out⟩
          case measure => simp [intOf]; omega
      · have e1 : decide ((i : Int) < x) = false := decide_eq_false h1
        have HS := Lib.hid (HS.out.trans (by rw [if_neg (fun h => h1 h.1), List.append_nil]))
        clear h1
        go_wp2_with fail
        go_roundw
        case rel => exact ⟨i + 1, by omega, by go_num, _, rfl, by rw [HS.out]; exact HA.out⟩
        case measure => simp [intOf]; omega
    · obtain rfl : i = M.length := by omega
      have d1 : decide (M.length < M.length) = false := by simp
      obtain ⟨a, cap, rfl, h1, h2⟩ := hat.done
      have H9 := Lib.hid (And.intro h1 h2)
      clear h1 h2 hat
      go_wp2_with fail
      go_ret
      rw [HR.out]
      exact ⟨a, cap, rfl, H9.out.1, H9.out.2⟩
set_option maxRecDepth 100000 in
set_option maxHeartbeats 1000000 in
theorem rinside_any (bs : List BlkL) (pl : Nat → Place) (M : List Int) (x : Int) (ab : Option Addr) (cb : Nat) (vp : Value) (am : Option Addr) (cm : Nat) (w : World) (hB : TabAt w ab 11 bs.length (blksC bs pl)) (hM : TabAt w am 1 M.length (intC M)) (hl : M.length ≤ 1000000) (hn : bs.length = M.length)
    (hk : ∀ i : Nat, (i : Int) < x → x ≤ M.getD i (-1) → kindAt bs i = 4) :
    Calls Try.prog 27 #[.agg #[.slice ab bs.length cb, vp, .slice am M.length cm], .int .i64 x] w (InPost (inR M bs.length x) w) := by
  generalize hnb : bs.length = nb at *
  subst hn
  have HB := Lib.hid hB
  have HK := Lib.hid hk
  have HNB := Lib.hid hnb
  clear hB hk hnb
  have H := Lib.hid hM
  have K0 := Lib.hid (show InAt w #[.slice ab M.length cb, vp, .slice am M.length cm] [] (.slice none 0 0) (w.alloc (.cells #[.slice ab M.length cb, vp, .slice am M.length cm] 42)) from ⟨Keeps.new (Below.refl w.heap.size w) (Nat.le_refl _) 42 #[.slice ab M.length cb, vp, .slice am M.length cm], World.ownsRow_nil _ _ _ _⟩)
  have HI0 := Lib.hid (fun h : x < 0 ∨ (M.length : Int) ≤ x => show inR M M.length x = [] from if_pos h)
  have HI1 := Lib.hid (fun h : ¬ (x < 0 ∨ (M.length : Int) ≤ x) => show inR M M.length x = insR M x M.length from if_neg h)
  clear hM
  go_enter Try.func27, Try.ntmps27
  by_cases hx : x < 0
  · have d0 : decide (x < 0) = true := decide_eq_true hx
    have HR := Lib.hid (HI0.out (.inl hx))
    go_wp2_with fail
    go_ret
    rw [HR.out]
    exact ⟨none, 0, rfl, .inl rfl, K0.out.k.bel⟩
  have d0 : decide (x < 0) = false := decide_eq_false hx
  by_cases hx2 : (M.length : Int) ≤ x
  · have dd : decide ((M.length : Int) ≤ x) = true := decide_eq_true hx2
    have HR := Lib.hid (HI0.out (.inr hx2))
    go_wp2_with fail
    go_ret
    rw [HR.out]
    exact ⟨none, 0, rfl, .inl rfl, K0.out.k.bel⟩
  have dd : decide ((M.length : Int) ≤ x) = false := decide_eq_false hx2
  have HR := Lib.hid (HI1.out (by omega))
  clear HI0 HI1
  have hx3 : 0 ≤ x ∧ x < M.length := by omega
  obtain ⟨n, rfl⟩ : ∃ n : Nat, x = n := ⟨x.toNat, by omega⟩
  have hn1 : n ≤ M.length := by omega
  have dd' : decide (M.length ≤ n) = false := decide_eq_false (by omega)
  have hmore := insR_more M n n (by omega) (M.length - n)
  rw [show n + (M.length - n) = M.length by omega] at hmore
  have HR2 := Lib.hid (HR.out.trans hmore)
  have HX := Lib.hid (And.intro hx (And.intro hx2 hx3))
  clear HR hmore hx hx2 hx3
  go_wp2_with fail
  go_loopw [5, 6] (fun s5 s20 wr => ∃ i : Nat, i ≤ n ∧ s20 = .int .i64 i ∧ ∃ v, v = s5 ∧ InAt w #[.slice ab M.length cb, vp, .slice am M.length cm] (insR M n i) v wr) (fun _ s _ => n - (intOf s).toNat)
  case atStart => exact ⟨0, by omega, rfl, _, rfl, K0.out⟩
  case round =>
    obtain ⟨i, hi, rfl, v, rfl, hat⟩ := hrel
    rename World => wr
    have HA := Lib.hid hat
    have i0 : (0 : Int) ≤ (i : Int) := by omega
    have f0 := hat.k.blk.cell 0
    have f2 := hat.k.blk.cell 2
    by_cases hlt' : i < n
    · have hlt : i < M.length := by have := HX.out; omega
      have d1 : decide (i < n) = true := by simpa using hlt'
      have i1 : (i : Int) < (M.length : Int) := by omega
      obtain ⟨_, b, o, rfl, hb, hc⟩ := H.out i hlt
      have m0 : wr.cell? ⟨b, o + i, none⟩ = some (.int .i64 (M.getD i 0)) := by
        have := (hat.k.bel.cell (p := ⟨b, o + i * 1 + 0, none⟩) hb).trans (hc 0 (by decide))
        simpa [intC] using this
      have hgd : M.getD i (-1) = M.getD i 0 := by simp [List.getD, List.getElem?_eq_getElem hlt]
      have hsucc := insR_succ M n i
      rw [hgd] at hsucc
      generalize M.getD i 0 = mv at *
      have HGD := Lib.hid hgd
      have HS := Lib.hid hsucc
      clear hc hgd hsucc hb
      have HKI := Lib.hid (HK.out i (by omega))
      obtain ⟨_, sb, so, rfl, hsb, hcc⟩ := HB.out i hlt
      have c1 := (hat.k.bel.cell (p := ⟨sb, so + i * 11 + 0, none⟩) hsb).trans (hcc 0 (by decide))
      have hbb := List.getElem?_eq_getElem (show i < bs.length by rw [HNB.out]; exact hlt)
      have hla : kindAt bs i = (bs[i]'(by rw [HNB.out]; exact hlt)).kind := by unfold kindAt; rw [hbb]
      rw [blksC_at hbb] at c1
      have c0 : wr.cell? ⟨sb, so + i * 11, none⟩ = some (.int .i64 (kindAt bs i)) := by rw [hla]; exact c1
      generalize kindAt bs i = kd at *
      have OW := Lib.hid (hat.alloc (.cells #[.int .i64 i] 3))
      clear hat c1 hbb hla hcc hsb
      by_cases h1 : kd = 4
      · have e1 : (kd == 4) = true := by simpa using h1
        by_cases h2 : (n : Int) ≤ mv
        · have e2 : decide ((n : Int) ≤ mv) = true := decide_eq_true h2
          have HS := Lib.hid (HS.out.trans (by rw [if_pos ⟨by omega, h2⟩]))
          clear h1 h2
          go_wp2_with (at_builtin; refine wpList_push rfl (.tmp 37) (.tmp 39) 23 rfl (w.heap.size + 1) 3 (.int .i64 0) 1 8 Try.underlying23 infoInt rfl (by decide) (by decide) v (insR M n i).length (intC (insR M n i)) rfl OW.out wr.heap.size [.int .i64 i] rfl (Blk.new wr 3 _) rfl (by simp [Value.oneCell']) ?c0 ?c1 ?c2)
          case c0 => have := insR_len M n i; omega
          case c1 => have := HA.out.k.blk.lt; simp; omega
          case c2 =>
            intro gg cc w2 hp
            have H9 := Lib.hid (HA.out.push hp)
            clear hp
            go_wp2_with fail
            go_roundw
            case rel => exact ⟨i + 1, by omega, by go_num, _, rfl, by rw [HS.out]; exact H9.out⟩
            case measure => simp [intOf]; omega
        · have e2 : decide ((n : Int) ≤ mv) = false := decide_eq_false h2
          have HS := Lib.hid (HS.out.trans (by rw [if_neg (fun h => h2 h.2), List.append_nil]))
          clear h1 h2
          go_wp2_with fail
          go_roundw
          case rel => exact ⟨i + 1, by omega, by go_num, _, rfl, by rw [HS.out]; exact HA.out⟩
          case measure => simp [intOf]; omega
      · have e1 : (kd == 4) = false := by simpa using h1
        have HS := Lib.hid (HS.out.trans (by rw [if_neg (fun h => h1 (HKI.out (by rw [HGD.out]; exact h.2))), List.append_nil]))
        clear h1
        go_wp2_with fail
        go_roundw
        case rel => exact ⟨i + 1, by omega, by go_num, _, rfl, by rw [HS.out]; exact HA.out⟩
        case measure => simp [intOf]; omega
    · obtain rfl : i = n := by omega
      have d1 : decide (i < i) = false := by simp
      obtain ⟨a, cap, rfl, h1, h2⟩ := hat.done
      have H9 := Lib.hid (And.intro h1 h2)
      clear h1 h2 hat
      go_wp2_with fail
      go_ret
      rw [HR2.out]
      exact ⟨a, cap, rfl, H9.out.1, H9.out.2⟩
end Go.Proofs.Yteiogjgmedikhaa
