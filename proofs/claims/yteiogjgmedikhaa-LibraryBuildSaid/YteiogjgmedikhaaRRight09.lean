/-
  cncref06.kids, none, right, Right.
-/
import Derived.Test.YteiogjgmedikhaaRight09
namespace Go.Proofs.Yteiogjgmedikhaa
open Go Go.RowKit
set_option linter.unusedVariables false

set_option maxRecDepth 100000 in
theorem rkids_any (op : Int) (w : World) : Calls Try.prog 63 #[.int .i64 op] w fun e w' => e = .returned (.int .i64 (kidsR op)) ∧ w = w' := by
  go_enter Try.func63, Try.ntmps63
  go_wp2_with fail
  all_goals
    go_ret
    refine ⟨?_, rfl⟩
    first
      | rfl
      | (simp at *
         unfold kidsR
         repeat' split
         all_goals first | rfl | omega)
theorem none_any (x : Ex) (a : Option Addr) (cap : Nat) (w : World) : Calls Try.prog 57 #[.agg (exC x.op x.n a x.kids.length cap).toArray] w fun e w' => e = .returned (.bool (zeroE x)) ∧ Below w.heap.size w w' := by
  obtain ⟨op, n, ks⟩ := x
  show Calls Try.prog 57 #[.agg #[.int .i64 op, .int .i64 n, .slice a ks.length cap]] w _
  have bel := (Below.refl w.heap.size w).alloc (Nat.le_refl _) (.cells #[.int .i64 op, .int .i64 n, .slice a ks.length cap] 35)
  go_enter Try.func57, Try.ntmps57
  go_wp2_with fail
  all_goals
    go_ret
    refine ⟨?_, by first | exact bel | (subst_vars; exact bel)⟩
    simp [zeroE, Ex.op, Ex.n, Ex.kids, *]
    try (cases ks <;> simp <;> omega)

set_option maxRecDepth 100000 in
set_option maxHeartbeats 1000000 in
theorem rright_m (m : Nat) (op n : Int) (ks : List Ex) (a : Option Addr) (cap : Nat) (w : World)  :
    Calls Try.prog 61 #[.agg #[.int .i64 op, .int .i64 n, .slice a ks.length cap], .int .i64 0] w fun e w' => e = .returned (.bool false) ∧ Below w.heap.size w w' := by
    let S : World → Prop := Keeps w.heap.size w w.heap.size 35 #[.int .i64 op, .int .i64 n, .slice a ks.length cap]
    have hs : S ((w.alloc (.cells #[.int .i64 op, .int .i64 n, .slice a ks.length cap] 35)).drew) := (Keeps.new (Below.refl _ _) (Nat.le_refl _) _ _).drew
    have inst : Nonempty (At S) := ⟨⟨_, hs⟩⟩
    have y0 : ∀ p : At S, p.w.cell? ⟨w.heap.size, 0, none⟩ = some (.int .i64 op) := fun p => p.ok.cell 0 rfl
    have y1 : ∀ p : At S, p.w.cell? ⟨w.heap.size, 1, none⟩ = some (.int .i64 n) := fun p => p.ok.cell 1 rfl
    have y2 : ∀ p : At S, p.w.cell? ⟨w.heap.size, 2, none⟩ = some (.slice a ks.length cap) := fun p => p.ok.cell 2 rfl
    have hB : ∀ p : At S, Below w.heap.size w p.w := fun p => p.ok.bel
    have hA : ∀ (p : At S) w', p.w = w' → S w' := fun p w' h => h ▸ p.ok
    have bf : ∀ p : At S, Blk p.w w.heap.size 35 #[.int .i64 op, .int .i64 n, .slice a ks.length cap] := fun p => p.ok.blk
    have KK := Lib.hid (fun W => rkids_any op W)
    have BF := Lib.hid bf
    have HB := Lib.hid hB
    clear bf hB
    clear_value S
    go_enter Try.func61, Try.ntmps61
    go_wp2_with fail
    refine wp_region_at S (by kernel_rfl) (by kernel_rfl) hs ?_
    repeat go_big_quiet_step (with_reducible exact Calls.at_of (KK.out _) fun e w' h => ⟨h.1, hA _ _ h.2⟩)
    refine wpQuiet_nil ?_
    rintro _ ⟨p, rfl⟩
    go_wp2_with fail
    go_ret
    exact ⟨rfl, HB.out p⟩

set_option maxRecDepth 100000 in
set_option maxHeartbeats 1000000 in
theorem rright_neg (m : Nat) (op n : Int) (ks : List Ex) (a : Option Addr) (cap : Nat) (w : World) (h : op < 0) :
    Calls Try.prog 61 #[.agg #[.int .i64 op, .int .i64 n, .slice a ks.length cap], .int .i64 ((m : Nat) + 1 : Int)] w fun e w' => e = .returned (.bool false) ∧ Below w.heap.size w w' := by
    have m0 : decide (((m : Nat) : Int) + 1 < 1) = false := decide_eq_false (by omega)
    have o0 : decide (op < 0) = true := decide_eq_true (by omega)
    let S : World → Prop := Keeps w.heap.size w w.heap.size 35 #[.int .i64 op, .int .i64 n, .slice a ks.length cap]
    have hs : S ((w.alloc (.cells #[.int .i64 op, .int .i64 n, .slice a ks.length cap] 35)).drew) := (Keeps.new (Below.refl _ _) (Nat.le_refl _) _ _).drew
    have inst : Nonempty (At S) := ⟨⟨_, hs⟩⟩
    have y0 : ∀ p : At S, p.w.cell? ⟨w.heap.size, 0, none⟩ = some (.int .i64 op) := fun p => p.ok.cell 0 rfl
    have y1 : ∀ p : At S, p.w.cell? ⟨w.heap.size, 1, none⟩ = some (.int .i64 n) := fun p => p.ok.cell 1 rfl
    have y2 : ∀ p : At S, p.w.cell? ⟨w.heap.size, 2, none⟩ = some (.slice a ks.length cap) := fun p => p.ok.cell 2 rfl
    have hB : ∀ p : At S, Below w.heap.size w p.w := fun p => p.ok.bel
    have hA : ∀ (p : At S) w', p.w = w' → S w' := fun p w' h => h ▸ p.ok
    have bf : ∀ p : At S, Blk p.w w.heap.size 35 #[.int .i64 op, .int .i64 n, .slice a ks.length cap] := fun p => p.ok.blk
    have KK := Lib.hid (fun W => rkids_any op W)
    have BF := Lib.hid bf
    have HB := Lib.hid hB
    clear bf hB
    clear_value S
    go_enter Try.func61, Try.ntmps61
    go_wp2_with fail
    refine wp_region_at S (by kernel_rfl) (by kernel_rfl) hs ?_
    repeat go_big_quiet_step (with_reducible exact Calls.at_of (KK.out _) fun e w' h => ⟨h.1, hA _ _ h.2⟩)
    refine wpQuiet_nil ?_
    rintro _ ⟨p, rfl⟩
    go_wp2_with fail
    go_ret
    exact ⟨rfl, HB.out p⟩

set_option maxRecDepth 100000 in
set_option maxHeartbeats 1000000 in
theorem rright_big (m : Nat) (op n : Int) (ks : List Ex) (a : Option Addr) (cap : Nat) (w : World) (h : 25 < op) :
    Calls Try.prog 61 #[.agg #[.int .i64 op, .int .i64 n, .slice a ks.length cap], .int .i64 ((m : Nat) + 1 : Int)] w fun e w' => e = .returned (.bool false) ∧ Below w.heap.size w w' := by
    have m0 : decide (((m : Nat) : Int) + 1 < 1) = false := decide_eq_false (by omega)
    have o0 : decide (op < 0) = false := decide_eq_false (by omega)
    have o1 : decide (25 < op) = true := decide_eq_true (by omega)
    let S : World → Prop := Keeps w.heap.size w w.heap.size 35 #[.int .i64 op, .int .i64 n, .slice a ks.length cap]
    have hs : S ((w.alloc (.cells #[.int .i64 op, .int .i64 n, .slice a ks.length cap] 35)).drew) := (Keeps.new (Below.refl _ _) (Nat.le_refl _) _ _).drew
    have inst : Nonempty (At S) := ⟨⟨_, hs⟩⟩
    have y0 : ∀ p : At S, p.w.cell? ⟨w.heap.size, 0, none⟩ = some (.int .i64 op) := fun p => p.ok.cell 0 rfl
    have y1 : ∀ p : At S, p.w.cell? ⟨w.heap.size, 1, none⟩ = some (.int .i64 n) := fun p => p.ok.cell 1 rfl
    have y2 : ∀ p : At S, p.w.cell? ⟨w.heap.size, 2, none⟩ = some (.slice a ks.length cap) := fun p => p.ok.cell 2 rfl
    have hB : ∀ p : At S, Below w.heap.size w p.w := fun p => p.ok.bel
    have hA : ∀ (p : At S) w', p.w = w' → S w' := fun p w' h => h ▸ p.ok
    have bf : ∀ p : At S, Blk p.w w.heap.size 35 #[.int .i64 op, .int .i64 n, .slice a ks.length cap] := fun p => p.ok.blk
    have KK := Lib.hid (fun W => rkids_any op W)
    have BF := Lib.hid bf
    have HB := Lib.hid hB
    clear bf hB
    clear_value S
    go_enter Try.func61, Try.ntmps61
    go_wp2_with fail
    refine wp_region_at S (by kernel_rfl) (by kernel_rfl) hs ?_
    repeat go_big_quiet_step (with_reducible exact Calls.at_of (KK.out _) fun e w' h => ⟨h.1, hA _ _ h.2⟩)
    refine wpQuiet_nil ?_
    rintro _ ⟨p, rfl⟩
    go_wp2_with fail
    go_ret
    exact ⟨rfl, HB.out p⟩

set_option maxRecDepth 100000 in
set_option maxHeartbeats 1000000 in
theorem rright_len (m : Nat) (op n : Int) (ks : List Ex) (a : Option Addr) (cap : Nat) (w : World) (h : 0 ≤ op ∧ op ≤ 25) (hl : (ks.length : Int) ≠ kidsR op) :
    Calls Try.prog 61 #[.agg #[.int .i64 op, .int .i64 n, .slice a ks.length cap], .int .i64 ((m : Nat) + 1 : Int)] w fun e w' => e = .returned (.bool false) ∧ Below w.heap.size w w' := by
    have m0 : decide (((m : Nat) : Int) + 1 < 1) = false := decide_eq_false (by omega)
    have o0 : decide (op < 0) = false := decide_eq_false (by omega)
    have o1 : decide (25 < op) = false := decide_eq_false (by omega)
    have t1 : ((ks.length : Int) != kidsR op) = true := by simpa using hl
    clear hl
    let S : World → Prop := Keeps w.heap.size w w.heap.size 35 #[.int .i64 op, .int .i64 n, .slice a ks.length cap]
    have hs : S ((w.alloc (.cells #[.int .i64 op, .int .i64 n, .slice a ks.length cap] 35)).drew) := (Keeps.new (Below.refl _ _) (Nat.le_refl _) _ _).drew
    have inst : Nonempty (At S) := ⟨⟨_, hs⟩⟩
    have y0 : ∀ p : At S, p.w.cell? ⟨w.heap.size, 0, none⟩ = some (.int .i64 op) := fun p => p.ok.cell 0 rfl
    have y1 : ∀ p : At S, p.w.cell? ⟨w.heap.size, 1, none⟩ = some (.int .i64 n) := fun p => p.ok.cell 1 rfl
    have y2 : ∀ p : At S, p.w.cell? ⟨w.heap.size, 2, none⟩ = some (.slice a ks.length cap) := fun p => p.ok.cell 2 rfl
    have hB : ∀ p : At S, Below w.heap.size w p.w := fun p => p.ok.bel
    have hA : ∀ (p : At S) w', p.w = w' → S w' := fun p w' h => h ▸ p.ok
    have bf : ∀ p : At S, Blk p.w w.heap.size 35 #[.int .i64 op, .int .i64 n, .slice a ks.length cap] := fun p => p.ok.blk
    have KK := Lib.hid (fun W => rkids_any op W)
    have BF := Lib.hid bf
    have HB := Lib.hid hB
    clear bf hB
    clear_value S
    go_enter Try.func61, Try.ntmps61
    go_wp2_with fail
    refine wp_region_at S (by kernel_rfl) (by kernel_rfl) hs ?_
    repeat go_big_quiet_step (with_reducible exact Calls.at_of (KK.out _) fun e w' h => ⟨h.1, hA _ _ h.2⟩)
    refine wpQuiet_nil ?_
    rintro _ ⟨p, rfl⟩
    go_wp2_with fail
    go_ret
    exact ⟨rfl, HB.out p⟩

set_option maxRecDepth 100000 in
set_option maxHeartbeats 1000000 in
theorem rright_n (m : Nat) (op n : Int) (ks : List Ex) (a : Option Addr) (cap : Nat) (w : World) (h : 0 ≤ op ∧ op ≤ 25) (hl : (ks.length : Int) = kidsR op) (ho : op ≠ 0) (hn : n ≠ 0) :
    Calls Try.prog 61 #[.agg #[.int .i64 op, .int .i64 n, .slice a ks.length cap], .int .i64 ((m : Nat) + 1 : Int)] w fun e w' => e = .returned (.bool false) ∧ Below w.heap.size w w' := by
    have m0 : decide (((m : Nat) : Int) + 1 < 1) = false := decide_eq_false (by omega)
    have o0 : decide (op < 0) = false := decide_eq_false (by omega)
    have o1 : decide (25 < op) = false := decide_eq_false (by omega)
    have t1 : ((ks.length : Int) != kidsR op) = false := by simpa using hl
    have t2 : (op != 0) = true := by simpa using ho
    have t3 : (n != 0) = true := by simpa using hn
    clear hl ho hn
    let S : World → Prop := Keeps w.heap.size w w.heap.size 35 #[.int .i64 op, .int .i64 n, .slice a ks.length cap]
    have hs : S ((w.alloc (.cells #[.int .i64 op, .int .i64 n, .slice a ks.length cap] 35)).drew) := (Keeps.new (Below.refl _ _) (Nat.le_refl _) _ _).drew
    have inst : Nonempty (At S) := ⟨⟨_, hs⟩⟩
    have y0 : ∀ p : At S, p.w.cell? ⟨w.heap.size, 0, none⟩ = some (.int .i64 op) := fun p => p.ok.cell 0 rfl
    have y1 : ∀ p : At S, p.w.cell? ⟨w.heap.size, 1, none⟩ = some (.int .i64 n) := fun p => p.ok.cell 1 rfl
    have y2 : ∀ p : At S, p.w.cell? ⟨w.heap.size, 2, none⟩ = some (.slice a ks.length cap) := fun p => p.ok.cell 2 rfl
    have hB : ∀ p : At S, Below w.heap.size w p.w := fun p => p.ok.bel
    have hA : ∀ (p : At S) w', p.w = w' → S w' := fun p w' h => h ▸ p.ok
    have bf : ∀ p : At S, Blk p.w w.heap.size 35 #[.int .i64 op, .int .i64 n, .slice a ks.length cap] := fun p => p.ok.blk
    have KK := Lib.hid (fun W => rkids_any op W)
    have BF := Lib.hid bf
    have HB := Lib.hid hB
    clear bf hB
    clear_value S
    go_enter Try.func61, Try.ntmps61
    go_wp2_with fail
    refine wp_region_at S (by kernel_rfl) (by kernel_rfl) hs ?_
    repeat go_big_quiet_step (with_reducible exact Calls.at_of (KK.out _) fun e w' h => ⟨h.1, hA _ _ h.2⟩)
    refine wpQuiet_nil ?_
    rintro _ ⟨p, rfl⟩
    go_wp2_with fail
    go_ret
    exact ⟨rfl, HB.out p⟩

set_option maxRecDepth 100000 in
set_option maxHeartbeats 1000000 in
theorem rright_neg0 (m : Nat) (op n : Int) (ks : List Ex) (a : Option Addr) (cap : Nat) (w : World) (hl : (ks.length : Int) = kidsR op) (h : n < 0) (ho : op = 0) :
    Calls Try.prog 61 #[.agg #[.int .i64 op, .int .i64 n, .slice a ks.length cap], .int .i64 ((m : Nat) + 1 : Int)] w fun e w' => e = .returned (.bool false) ∧ Below w.heap.size w w' := by
    have m0 : decide (((m : Nat) : Int) + 1 < 1) = false := decide_eq_false (by omega)
    have h' := h
    have o0 : decide (op < 0) = false := decide_eq_false (by omega)
    have o1 : decide (25 < op) = false := decide_eq_false (by omega)
    have t1 : ((ks.length : Int) != kidsR op) = false := by simpa using hl
    have t2 : (op != 0) = false := by simp [ho]
    have n0 : decide (n < 0) = true := decide_eq_true (by omega)
    clear hl ho
    let S : World → Prop := Keeps w.heap.size w w.heap.size 35 #[.int .i64 op, .int .i64 n, .slice a ks.length cap]
    have hs : S ((w.alloc (.cells #[.int .i64 op, .int .i64 n, .slice a ks.length cap] 35)).drew) := (Keeps.new (Below.refl _ _) (Nat.le_refl _) _ _).drew
    have inst : Nonempty (At S) := ⟨⟨_, hs⟩⟩
    have y0 : ∀ p : At S, p.w.cell? ⟨w.heap.size, 0, none⟩ = some (.int .i64 op) := fun p => p.ok.cell 0 rfl
    have y1 : ∀ p : At S, p.w.cell? ⟨w.heap.size, 1, none⟩ = some (.int .i64 n) := fun p => p.ok.cell 1 rfl
    have y2 : ∀ p : At S, p.w.cell? ⟨w.heap.size, 2, none⟩ = some (.slice a ks.length cap) := fun p => p.ok.cell 2 rfl
    have hB : ∀ p : At S, Below w.heap.size w p.w := fun p => p.ok.bel
    have hA : ∀ (p : At S) w', p.w = w' → S w' := fun p w' h => h ▸ p.ok
    have bf : ∀ p : At S, Blk p.w w.heap.size 35 #[.int .i64 op, .int .i64 n, .slice a ks.length cap] := fun p => p.ok.blk
    have KK := Lib.hid (fun W => rkids_any op W)
    have BF := Lib.hid bf
    have HB := Lib.hid hB
    clear bf hB
    clear_value S
    go_enter Try.func61, Try.ntmps61
    go_wp2_with fail
    refine wp_region_at S (by kernel_rfl) (by kernel_rfl) hs ?_
    repeat go_big_quiet_step (with_reducible exact Calls.at_of (KK.out _) fun e w' h => ⟨h.1, hA _ _ h.2⟩)
    refine wpQuiet_nil ?_
    rintro _ ⟨p, rfl⟩
    go_wp2_with fail
    go_ret
    exact ⟨rfl, HB.out p⟩

set_option maxRecDepth 100000 in
set_option maxHeartbeats 1000000 in
theorem rright_big0 (m : Nat) (op n : Int) (ks : List Ex) (a : Option Addr) (cap : Nat) (w : World) (hl : (ks.length : Int) = kidsR op) (h : 1000000000000000 ≤ n) (ho : op = 0) :
    Calls Try.prog 61 #[.agg #[.int .i64 op, .int .i64 n, .slice a ks.length cap], .int .i64 ((m : Nat) + 1 : Int)] w fun e w' => e = .returned (.bool false) ∧ Below w.heap.size w w' := by
    have m0 : decide (((m : Nat) : Int) + 1 < 1) = false := decide_eq_false (by omega)
    have o0 : decide (op < 0) = false := decide_eq_false (by omega)
    have o1 : decide (25 < op) = false := decide_eq_false (by omega)
    have t1 : ((ks.length : Int) != kidsR op) = false := by simpa using hl
    have t2 : (op != 0) = false := by simp [ho]
    have n0 : decide (n < 0) = false := decide_eq_false (by omega)
    have n1 : decide (1000000000000000 ≤ n) = true := decide_eq_true (by omega)
    clear hl ho
    let S : World → Prop := Keeps w.heap.size w w.heap.size 35 #[.int .i64 op, .int .i64 n, .slice a ks.length cap]
    have hs : S ((w.alloc (.cells #[.int .i64 op, .int .i64 n, .slice a ks.length cap] 35)).drew) := (Keeps.new (Below.refl _ _) (Nat.le_refl _) _ _).drew
    have inst : Nonempty (At S) := ⟨⟨_, hs⟩⟩
    have y0 : ∀ p : At S, p.w.cell? ⟨w.heap.size, 0, none⟩ = some (.int .i64 op) := fun p => p.ok.cell 0 rfl
    have y1 : ∀ p : At S, p.w.cell? ⟨w.heap.size, 1, none⟩ = some (.int .i64 n) := fun p => p.ok.cell 1 rfl
    have y2 : ∀ p : At S, p.w.cell? ⟨w.heap.size, 2, none⟩ = some (.slice a ks.length cap) := fun p => p.ok.cell 2 rfl
    have hB : ∀ p : At S, Below w.heap.size w p.w := fun p => p.ok.bel
    have hA : ∀ (p : At S) w', p.w = w' → S w' := fun p w' h => h ▸ p.ok
    have bf : ∀ p : At S, Blk p.w w.heap.size 35 #[.int .i64 op, .int .i64 n, .slice a ks.length cap] := fun p => p.ok.blk
    have KK := Lib.hid (fun W => rkids_any op W)
    have BF := Lib.hid bf
    have HB := Lib.hid hB
    clear bf hB
    clear_value S
    go_enter Try.func61, Try.ntmps61
    go_wp2_with fail
    refine wp_region_at S (by kernel_rfl) (by kernel_rfl) hs ?_
    repeat go_big_quiet_step (with_reducible exact Calls.at_of (KK.out _) fun e w' h => ⟨h.1, hA _ _ h.2⟩)
    refine wpQuiet_nil ?_
    rintro _ ⟨p, rfl⟩
    go_wp2_with fail
    go_ret
    exact ⟨rfl, HB.out p⟩

set_option maxRecDepth 100000 in
set_option maxHeartbeats 1000000 in
theorem rright_op (m : Nat) (op n : Int) (ks : List Ex) (a : Option Addr) (cap : Nat) (w : World) (hx : ExAt w (.mk op n ks) a cap) (h : 0 ≤ op ∧ op ≤ 25) (hl : (ks.length : Int) = kidsR op) (ho : op ≠ 0) (hn : n = 0) (hm : m + 1 ≤ 16)
    (ih : ∀ (x : Ex) (a : Option Addr) (cap : Nat) (w : World), ExAt w x a cap → Calls Try.prog 61 #[.agg #[.int .i64 x.op, .int .i64 x.n, .slice a x.kids.length cap], .int .i64 m] w fun e w' => e = .returned (.bool (rightR m x)) ∧ Below w.heap.size w w') :
    Calls Try.prog 61 #[.agg #[.int .i64 op, .int .i64 n, .slice a ks.length cap], .int .i64 ((m : Nat) + 1 : Int)] w fun e w' => e = .returned (.bool (ks.all (rightR m))) ∧ Below w.heap.size w w' := by
    have IH := Lib.hid ih
    have HX := Lib.hid hx
    clear ih hx
    have m0 : decide (((m : Nat) : Int) + 1 < 1) = false := decide_eq_false (by omega)
    have o0 : decide (op < 0) = false := decide_eq_false (by omega)
    have o1 : decide (25 < op) = false := decide_eq_false (by omega)
    have t1 : ((ks.length : Int) != kidsR op) = false := by simpa using hl
    have t2 : (op != 0) = true := by simpa using ho
    have t3 : (n != 0) = false := by simp [hn]
    have n0 : decide (n < 0) = false := decide_eq_false (by omega)
    have n1 : decide (1000000000000000 ≤ n) = false := decide_eq_false (by omega)
    clear hl ho hn
    let S : World → Prop := Keeps w.heap.size w w.heap.size 35 #[.int .i64 op, .int .i64 n, .slice a ks.length cap]
    have hs : S ((w.alloc (.cells #[.int .i64 op, .int .i64 n, .slice a ks.length cap] 35)).drew) := (Keeps.new (Below.refl _ _) (Nat.le_refl _) _ _).drew
    have inst : Nonempty (At S) := ⟨⟨_, hs⟩⟩
    have y0 : ∀ p : At S, p.w.cell? ⟨w.heap.size, 0, none⟩ = some (.int .i64 op) := fun p => p.ok.cell 0 rfl
    have y1 : ∀ p : At S, p.w.cell? ⟨w.heap.size, 1, none⟩ = some (.int .i64 n) := fun p => p.ok.cell 1 rfl
    have y2 : ∀ p : At S, p.w.cell? ⟨w.heap.size, 2, none⟩ = some (.slice a ks.length cap) := fun p => p.ok.cell 2 rfl
    have hB : ∀ p : At S, Below w.heap.size w p.w := fun p => p.ok.bel
    have hA : ∀ (p : At S) w', p.w = w' → S w' := fun p w' h => h ▸ p.ok
    have bf : ∀ p : At S, Blk p.w w.heap.size 35 #[.int .i64 op, .int .i64 n, .slice a ks.length cap] := fun p => p.ok.blk
    have KK := Lib.hid (fun W => rkids_any op W)
    have BF := Lib.hid bf
    have HB := Lib.hid hB
    clear bf hB
    clear_value S
    go_enter Try.func61, Try.ntmps61
    go_wp2_with fail
    refine wp_region_at S (by kernel_rfl) (by kernel_rfl) hs ?_
    repeat go_big_quiet_step (with_reducible exact Calls.at_of (KK.out _) fun e w' h => ⟨h.1, hA _ _ h.2⟩)
    refine wpQuiet_nil ?_
    rintro _ ⟨p, rfl⟩
    have hp := BF.out p
    have z0 := hp.cell 0
    have z1 := hp.cell 1
    have z2 := hp.cell 2
    have HBp := Lib.hid (HB.out p)
    generalize p.w = W1 at *
    have hget : ∀ k, k < ks.length → ∃ x, ks[k]? = some x := fun k hk => ⟨ks[k], List.getElem?_eq_getElem hk⟩
    have HG := Lib.hid hget
    have hx := HX.out
    cases hx with
    | mk kk hn hc hmm hh =>
      have HN := Lib.hid hn
      have HH := Lib.hid hh
      clear hget hn hh
      go_wp2_with fail
      go_loopw [5] (fun s wr => ∃ i : Nat, i ≤ ks.length ∧ s = .int .i64 i ∧ (∀ (j : Nat) (x : Ex), j < i → ks[j]? = some x → rightR m x = true) ∧ Keeps w.heap.size w w.heap.size 35 #[.int .i64 op, .int .i64 n, .slice a ks.length cap] wr)
        (fun s _ => ks.length - (intOf s).toNat)
      case atStart => exact ⟨0, by omega, rfl, fun j x h => by omega, hp, HBp.out, by have := HBp.out.size; omega⟩
      case round =>
        obtain ⟨i, hi, rfl, hall, hkp⟩ := hrel
        have HA := Lib.hid hall
        have HK := Lib.hid hkp
        have i0 : (0 : Int) ≤ (i : Int) := by omega
        have q2 := hkp.blk.cell 2
        clear hall
        by_cases hlt : i < ks.length
        · have d1 : decide (i < ks.length) = true := by simpa using hlt
          have i1 : (i : Int) < (ks.length : Int) := by omega
          obtain ⟨x, hx⟩ := HG.out i hlt
          rcases HN.out with e | ⟨b, o, e, hl, hc⟩
          · subst e
            simp at hlt
          · subst e
            obtain ⟨xo, xn, xk⟩ := x
            have cl := fun j (v : Value) (h : _) => (hkp.bel.cell (p := ⟨b, o + i * 3 + j, none⟩) hl).trans (hc i _ hx j v h)
            have p0 := cl 0 _ rfl
            have p1 := cl 1 _ rfl
            have p2 := cl 2 _ rfl
            simp only [Nat.add_zero, Ex.op, Ex.n, Ex.kids] at p0 p1 p2
            have KR := Lib.hid (fun W (hb : Below w.heap.size w W) => IH.out (.mk xo xn xk) (kk i).1 (kk i).2 W ((HH.out i _ hx).under hb))
            clear cl hc hkp
            go_wp2_with fail
            refine (KR.out _ HK.out.bel).mono ?_
            rintro e w2 ⟨rfl, b2⟩
            have K2 := Lib.hid (HK.out.below b2)
            cases hrv : rightR m (.mk xo xn xk) with
            | true =>
              go_wp2_with fail
              go_roundw
              case rel => exact ⟨i + 1, by omega, by go_num, fun j y hj hy => by
                by_cases ej : j = i
                · subst ej
                  rw [hx] at hy
                  injection hy with hy
                  rw [← hy]
                  exact hrv
                · exact HA.out j y (by omega) hy, K2.out⟩
              case measure => simp [intOf] <;> omega
            | false =>
              have hf : ks.all (rightR m) = false := List.all_eq_false.2 ⟨_, List.mem_of_getElem? hx, by simp [hrv]⟩
              have HF := Lib.hid hf
              clear hf
              go_wp2_with fail
              go_ret
              exact ⟨by rw [HF.out]; rfl, K2.out.bel⟩
        · obtain rfl : i = ks.length := by omega
          have d1 : decide (ks.length < ks.length) = false := by simp
          have hf : ks.all (rightR m) = true := List.all_eq_true.2 fun y hy => by
            obtain ⟨j, hj, ej⟩ := List.mem_iff_getElem.1 hy
            exact HA.out j y hj (by rw [← ej]; exact List.getElem?_eq_getElem hj)
          have HF := Lib.hid hf
          clear hf hkp
          go_wp2_with fail
          go_ret
          exact ⟨by rw [HF.out]; rfl, HK.out.bel⟩

set_option maxRecDepth 100000 in
set_option maxHeartbeats 1000000 in
theorem rright_num (m : Nat) (op n : Int) (ks : List Ex) (a : Option Addr) (cap : Nat) (w : World) (hx : ExAt w (.mk op n ks) a cap) (hl : (ks.length : Int) = kidsR op) (h : 0 ≤ n ∧ n < 1000000000000000) (ho : op = 0) (hm : m + 1 ≤ 16)
    (ih : ∀ (x : Ex) (a : Option Addr) (cap : Nat) (w : World), ExAt w x a cap → Calls Try.prog 61 #[.agg #[.int .i64 x.op, .int .i64 x.n, .slice a x.kids.length cap], .int .i64 m] w fun e w' => e = .returned (.bool (rightR m x)) ∧ Below w.heap.size w w') :
    Calls Try.prog 61 #[.agg #[.int .i64 op, .int .i64 n, .slice a ks.length cap], .int .i64 ((m : Nat) + 1 : Int)] w fun e w' => e = .returned (.bool (ks.all (rightR m))) ∧ Below w.heap.size w w' := by
    have IH := Lib.hid ih
    have HX := Lib.hid hx
    clear ih hx
    have m0 : decide (((m : Nat) : Int) + 1 < 1) = false := decide_eq_false (by omega)
    have o0 : decide (op < 0) = false := decide_eq_false (by omega)
    have o1 : decide (25 < op) = false := decide_eq_false (by omega)
    have t1 : ((ks.length : Int) != kidsR op) = false := by simpa using hl
    have t2 : (op != 0) = false := by simp [ho]
    have n0 : decide (n < 0) = false := decide_eq_false (by omega)
    have n1 : decide (1000000000000000 ≤ n) = false := decide_eq_false (by omega)
    clear hl ho
    let S : World → Prop := Keeps w.heap.size w w.heap.size 35 #[.int .i64 op, .int .i64 n, .slice a ks.length cap]
    have hs : S ((w.alloc (.cells #[.int .i64 op, .int .i64 n, .slice a ks.length cap] 35)).drew) := (Keeps.new (Below.refl _ _) (Nat.le_refl _) _ _).drew
    have inst : Nonempty (At S) := ⟨⟨_, hs⟩⟩
    have y0 : ∀ p : At S, p.w.cell? ⟨w.heap.size, 0, none⟩ = some (.int .i64 op) := fun p => p.ok.cell 0 rfl
    have y1 : ∀ p : At S, p.w.cell? ⟨w.heap.size, 1, none⟩ = some (.int .i64 n) := fun p => p.ok.cell 1 rfl
    have y2 : ∀ p : At S, p.w.cell? ⟨w.heap.size, 2, none⟩ = some (.slice a ks.length cap) := fun p => p.ok.cell 2 rfl
    have hB : ∀ p : At S, Below w.heap.size w p.w := fun p => p.ok.bel
    have hA : ∀ (p : At S) w', p.w = w' → S w' := fun p w' h => h ▸ p.ok
    have bf : ∀ p : At S, Blk p.w w.heap.size 35 #[.int .i64 op, .int .i64 n, .slice a ks.length cap] := fun p => p.ok.blk
    have KK := Lib.hid (fun W => rkids_any op W)
    have BF := Lib.hid bf
    have HB := Lib.hid hB
    clear bf hB
    clear_value S
    go_enter Try.func61, Try.ntmps61
    go_wp2_with fail
    refine wp_region_at S (by kernel_rfl) (by kernel_rfl) hs ?_
    repeat go_big_quiet_step (with_reducible exact Calls.at_of (KK.out _) fun e w' h => ⟨h.1, hA _ _ h.2⟩)
    refine wpQuiet_nil ?_
    rintro _ ⟨p, rfl⟩
    have hp := BF.out p
    have z0 := hp.cell 0
    have z1 := hp.cell 1
    have z2 := hp.cell 2
    have HBp := Lib.hid (HB.out p)
    generalize p.w = W1 at *
    have hget : ∀ k, k < ks.length → ∃ x, ks[k]? = some x := fun k hk => ⟨ks[k], List.getElem?_eq_getElem hk⟩
    have HG := Lib.hid hget
    have hx := HX.out
    cases hx with
    | mk kk hn hc hmm hh =>
      have HN := Lib.hid hn
      have HH := Lib.hid hh
      clear hget hn hh
      go_wp2_with fail
      go_loopw [5] (fun s wr => ∃ i : Nat, i ≤ ks.length ∧ s = .int .i64 i ∧ (∀ (j : Nat) (x : Ex), j < i → ks[j]? = some x → rightR m x = true) ∧ Keeps w.heap.size w w.heap.size 35 #[.int .i64 op, .int .i64 n, .slice a ks.length cap] wr)
        (fun s _ => ks.length - (intOf s).toNat)
      case atStart => exact ⟨0, by omega, rfl, fun j x h => by omega, hp, HBp.out, by have := HBp.out.size; omega⟩
      case round =>
        obtain ⟨i, hi, rfl, hall, hkp⟩ := hrel
        have HA := Lib.hid hall
        have HK := Lib.hid hkp
        have i0 : (0 : Int) ≤ (i : Int) := by omega
        have q2 := hkp.blk.cell 2
        clear hall
        by_cases hlt : i < ks.length
        · have d1 : decide (i < ks.length) = true := by simpa using hlt
          have i1 : (i : Int) < (ks.length : Int) := by omega
          obtain ⟨x, hx⟩ := HG.out i hlt
          rcases HN.out with e | ⟨b, o, e, hl, hc⟩
          · subst e
            simp at hlt
          · subst e
            obtain ⟨xo, xn, xk⟩ := x
            have cl := fun j (v : Value) (h : _) => (hkp.bel.cell (p := ⟨b, o + i * 3 + j, none⟩) hl).trans (hc i _ hx j v h)
            have p0 := cl 0 _ rfl
            have p1 := cl 1 _ rfl
            have p2 := cl 2 _ rfl
            simp only [Nat.add_zero, Ex.op, Ex.n, Ex.kids] at p0 p1 p2
            have KR := Lib.hid (fun W (hb : Below w.heap.size w W) => IH.out (.mk xo xn xk) (kk i).1 (kk i).2 W ((HH.out i _ hx).under hb))
            clear cl hc hkp
            go_wp2_with fail
            refine (KR.out _ HK.out.bel).mono ?_
            rintro e w2 ⟨rfl, b2⟩
            have K2 := Lib.hid (HK.out.below b2)
            cases hrv : rightR m (.mk xo xn xk) with
            | true =>
              go_wp2_with fail
              go_roundw
              case rel => exact ⟨i + 1, by omega, by go_num, fun j y hj hy => by
                by_cases ej : j = i
                · subst ej
                  rw [hx] at hy
                  injection hy with hy
                  rw [← hy]
                  exact hrv
                · exact HA.out j y (by omega) hy, K2.out⟩
              case measure => simp [intOf] <;> omega
            | false =>
              have hf : ks.all (rightR m) = false := List.all_eq_false.2 ⟨_, List.mem_of_getElem? hx, by simp [hrv]⟩
              have HF := Lib.hid hf
              clear hf
              go_wp2_with fail
              go_ret
              exact ⟨by rw [HF.out]; rfl, K2.out.bel⟩
        · obtain rfl : i = ks.length := by omega
          have d1 : decide (ks.length < ks.length) = false := by simp
          have hf : ks.all (rightR m) = true := List.all_eq_true.2 fun y hy => by
            obtain ⟨j, hj, ej⟩ := List.mem_iff_getElem.1 hy
            exact HA.out j y hj (by rw [← ej]; exact List.getElem?_eq_getElem hj)
          have HF := Lib.hid hf
          clear hf hkp
          go_wp2_with fail
          go_ret
          exact ⟨by rw [HF.out]; rfl, HK.out.bel⟩

theorem rright_any : ∀ (m : Nat) (x : Ex) (a : Option Addr) (cap : Nat) (w : World), m ≤ 16 → ExAt w x a cap →
    Calls Try.prog 61 #[.agg #[.int .i64 x.op, .int .i64 x.n, .slice a x.kids.length cap], .int .i64 m] w fun e w' => e = .returned (.bool (rightR m x)) ∧ Below w.heap.size w w' := by
  intro m
  induction m with
  | zero =>
    intro x a cap w hm hx
    obtain ⟨op, n, ks⟩ := x
    exact rright_m 0 op n ks a cap w
  | succ m ih =>
    intro x a cap w hm hx
    obtain ⟨op, n, ks⟩ := x
    show Calls Try.prog 61 #[.agg #[.int .i64 op, .int .i64 n, .slice a ks.length cap], .int .i64 ((m + 1 : Nat) : Int)] w _
    rw [Int.natCast_succ]
    have ih' := fun x a cap w hx => ih x a cap w (by omega) hx
    by_cases hb : op < 0 ∨ 25 < op ∨ (ks.length : Int) ≠ kidsR op ∨ (op ≠ 0 ∧ n ≠ 0) ∨ n < 0 ∨ 1000000000000000 ≤ n
    · have e : rightR (m + 1) (.mk op n ks) = false := by unfold rightR; rw [if_pos hb]
      rw [e]
      by_cases h1 : op < 0
      · exact rright_neg m op n ks a cap w h1
      · by_cases h2 : 25 < op
        · exact rright_big m op n ks a cap w h2
        · by_cases h3 : (ks.length : Int) = kidsR op
          · by_cases h4 : op = 0
            · by_cases h5 : n < 0
              · exact rright_neg0 m op n ks a cap w h3 h5 h4
              · exact rright_big0 m op n ks a cap w h3 (by omega) h4
            · by_cases h5 : n = 0
              · omega
              · exact rright_n m op n ks a cap w (by omega) h3 h4 h5
          · exact rright_len m op n ks a cap w (by omega) h3
    · have e : rightR (m + 1) (.mk op n ks) = ks.all (rightR m) := by rw [rightR.eq_2, if_neg hb]
      rw [e]
      by_cases h4 : op = 0
      · exact rright_num m op n ks a cap w hx (by omega) (by omega) h4 hm ih'
      · exact rright_op m op n ks a cap w hx (by omega) (by omega) h4 (by omega) hm ih'
theorem rright16_any (x : Ex) (a : Option Addr) (cap : Nat) (w : World) (hx : ExAt w x a cap) :
    Calls Try.prog 56 #[.agg #[.int .i64 x.op, .int .i64 x.n, .slice a x.kids.length cap]] w fun e w' => e = .returned (.bool (rightR 16 x)) ∧ Below w.heap.size w w' := by
  have bel := (Below.refl w.heap.size w).alloc (Nat.le_refl _) (.cells #[.int .i64 x.op, .int .i64 x.n, .slice a x.kids.length cap] 35)
  have KR := rright_any 16 x a cap _ (Nat.le_refl _) (hx.under bel)
  rw [show ((16 : Nat) : Int) = 16 from rfl] at KR
  have KR := Lib.hid KR
  clear hx
  generalize rightR 16 x = r at *
  obtain ⟨op, n, ks⟩ := x
  simp only [Ex.op, Ex.n, Ex.kids] at KR bel ⊢
  go_enter Try.func56, Try.ntmps56
  go_wp2_with fail
  refine KR.out.mono ?_
  rintro e w2 ⟨rfl, b2⟩
  have b3 := bel.trans (b2.mono bel.size)
  clear bel b2
  go_wp2_with fail
  go_ret
  exact ⟨rfl, b3⟩
end Go.Proofs.Yteiogjgmedikhaa
