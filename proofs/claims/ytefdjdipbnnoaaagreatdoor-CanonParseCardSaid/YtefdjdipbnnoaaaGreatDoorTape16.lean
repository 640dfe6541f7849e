/-
  cncmake.Mod, Between, Light, New, Next and Range. Any list of numbers.
-/
import Derived.Test.YtefdjdipbnnoaaaGreatDoorHeld
import Derived.Test.YtefdjdipbnnoaaaGreatDoorHeldBy
import Derived.Test.YtefdjdipbnnoaaaGreatDoorBuild
import Derived.Test.YtefdjdipbnnoaaaGreatDoorTab
import Derived.Test.YtefdjdipbnnoaaaGreatDoorChecked
import Derived.Lib.Hide
namespace Go.Proofs.YtefdjdipbnnoaaaGreatDoor
open Go Go.RowKit
set_option linter.unusedVariables false

theorem tmod_bd (v n : Int) (h : 1 ≤ n) : -n < v.tmod n ∧ v.tmod n < n := by
  have h0 := Int.emod_nonneg v (show n ≠ 0 by omega)
  have h1 := Int.emod_lt_of_pos v (show 0 < n by omega)
  rw [Int.tmod_eq_emod]
  split <;> omega
theorem tmod_emod (v n : Int) (h : 1 ≤ n) : (v.tmod n < 0 → v.tmod n + n = v % n) ∧ (¬ v.tmod n < 0 → v.tmod n = v % n) := by
  have h0 := Int.emod_nonneg v (show n ≠ 0 by omega)
  have h1 := Int.emod_lt_of_pos v (show 0 < n by omega)
  rw [Int.tmod_eq_emod]
  split <;> omega
theorem mod_any (v n : Int) (w : World) (h : 1 ≤ n) (hn : n ≤ 9007199254740992) :
    Calls Tryz.prog 18 #[.int .i64 v, .int .i64 n] w fun e w' => e = .returned (.int .i64 (v % n)) ∧ w = w' := by
  obtain ⟨h3, h4⟩ := tmod_emod v n h
  obtain ⟨h1, h2⟩ := tmod_bd v n h
  have d0 : (n == 0) = false := by simp; omega
  by_cases hr : v.tmod n < 0
  · have H := Lib.hid (h3 hr)
    clear h3 h4
    go_enter Tryz.func18, Tryz.ntmps18
    go_wp2
    go_ret
    exact ⟨ret_int H.out, rfl⟩
  · have H := Lib.hid (h4 hr)
    clear h3 h4
    go_enter Tryz.func18, Tryz.ntmps18
    go_wp2
    go_ret
    exact ⟨ret_int H.out, rfl⟩
theorem between_any (v lo hi : Int) (w : World) (h : lo ≤ hi) (h1 : -1125899906842624 ≤ lo) (h2 : hi ≤ 1125899906842624) :
    Calls Tryz.prog 12 #[.int .i64 v, .int .i64 lo, .int .i64 hi] w fun e w' => e = .returned (.int .i64 (lo + v % (hi - lo + 1))) ∧ w = w' := by
  have hm := fun W => mod_any v (hi - lo + 1) W (by omega) (by omega)
  have hr1 := Int.emod_nonneg v (show hi - lo + 1 ≠ 0 by omega)
  have hr2 := Int.emod_lt_of_pos v (show 0 < hi - lo + 1 by omega)
  generalize v % (hi - lo + 1) = r at *
  have HM := Lib.hid hm
  clear hm
  go_enter Tryz.func12, Tryz.ntmps12
  go_wp2_with (go_at_call 18; refine (HM.out _).mono ?_; rintro e w' ⟨rfl, rfl⟩)
  go_ret
  exact ⟨rfl, rfl⟩
theorem between_bd (v lo hi : Int) (h : lo ≤ hi) : lo ≤ lo + v % (hi - lo + 1) ∧ lo + v % (hi - lo + 1) ≤ hi := by
  have hr1 := Int.emod_nonneg v (show hi - lo + 1 ≠ 0 by omega)
  have hr2 := Int.emod_lt_of_pos v (show 0 < hi - lo + 1 by omega)
  omega

/-- The source in block g: a slice, and how many numbers are used up; the numbers lie below block B. -/
structure Src (w : World) (B g : Nat) (a : Option Addr) (n c : Nat) (z : Nat → Int) (k : Nat) : Prop where
  blk : Blk w g 57 #[.slice a n c, .int .i64 k]
  old : B ≤ g
  used : k ≤ n
  most : n ≤ 9223372036854775807
  num : ∀ i, i < n → ∃ b o, a = some ⟨b, o, none⟩ ∧ b < B ∧ w.cell? ⟨b, o + i, none⟩ = some (.int .i64 (z i))
section
variable {w w' : World} {B g n c k : Nat} {a : Option Addr} {z : Nat → Int}
theorem Src.lt (h : Src w B g a n c z k) : g < w.heap.size := h.blk.lt
theorem Src.keep (h : Src w B g a n c z k) (hb : w'.heap[g]? = w.heap[g]?) (hc : ∀ p : Addr, p.block < B → w'.cell? p = w.cell? p) : Src w' B g a n c z k :=
  ⟨hb.trans h.blk, h.old, h.used, h.most, fun i hi => by
    obtain ⟨b, o, e, hlt, hcell⟩ := h.num i hi
    exact ⟨b, o, e, hlt, (hc _ hlt).trans hcell⟩⟩
theorem Src.drewN (h : Src w B g a n c z k) (q : Nat) : Src (w.drewN q) B g a n c z k := h.keep rfl fun _ _ => rfl
theorem Src.drew (h : Src w B g a n c z k) : Src w.drew B g a n c z k := h.keep rfl fun _ _ => rfl
theorem Src.alloc (h : Src w B g a n c z k) (o : Obj) : Src (w.alloc o) B g a n c z k :=
  h.keep (Below.heap_alloc w o g h.lt) fun p hp => World.cell?_alloc_lt w o p (by have := h.lt; have := h.old; omega)
theorem Src.setCell (h : Src w B g a n c z k) {p : Addr} (hp : B ≤ p.block) (hg : p.block ≠ g) (u : Value) : Src (w.setCell p u) B g a n c z k :=
  h.keep (Below.heap_setCell w p u g (Ne.symm hg)) fun q hq => World.cell?_setCell_other w p q u (fun e => by subst e; omega)
theorem Src.next (h : Src w B g a n c z k) (hk : k < n) : Src (w.setCell ⟨g, 1, none⟩ (.int .i64 ((k + 1 : Nat) : Int))) B g a n c z (k + 1) :=
  ⟨h.blk.put 1 _, h.old, hk, h.most, fun i hi => by
    obtain ⟨b, o, e, hlt, hcell⟩ := h.num i hi
    exact ⟨b, o, e, hlt, (World.cell?_setCell_other w ⟨g, 1, none⟩ _ _ (fun e => by injection e with e _ _; have := h.old; omega)).trans hcell⟩⟩
theorem Src.setRow (h : Src w B g a n c z k) {g' : Nat} (hp : B ≤ g') (hg : g' ≠ g) (cs : Array Value) : Src (w.setRow g' cs) B g a n c z k :=
  h.keep (setRow_other w g' g cs (Ne.symm hg)) fun q hq => cell_setRow_other w g' cs q (by omega)
/-- Only the source may have turned, and what is new. -/
theorem Src.grown (h : Src w B g a n c z k) (hg : w.grownBy w' none) : Src w' B g a n c z k :=
  h.keep (hg.block g h.lt (by simp)) fun p hp => World.cell?_of_block (hg.block p.block (by have := h.lt; have := h.old; omega) (by simp))
end

theorem next_end (w : World) (B g : Nat) (a : Option Addr) (n c k : Nat) (z : Nat → Int) (m : Int) (hs : Src w B g a n c z k) (hk : n ≤ k) :
    Calls Tryz.prog 26 #[.pointer (some ⟨g, 0, none⟩), .int .i64 m] w fun e w' => e = .returned (.int .i64 0) ∧ ∃ q, w' = w.drewN q := by
  have c0 : w.cell? ⟨g, 0, none⟩ = some (.slice a n c) := hs.blk.cell 0
  have c1 : w.cell? ⟨g, 1, none⟩ = some (.int .i64 k) := hs.blk.cell 1
  have d1 : decide (n ≤ k) = true := by simpa using hk
  clear hs
  go_enter Tryz.func26, Tryz.ntmps26
  go_wp2_with fail
  go_quiet (fail)
  go_wp2
  go_ret
  exact ⟨rfl, _, rfl⟩
set_option maxRecDepth 100000 in
theorem next_more (w : World) (B g : Nat) (a : Option Addr) (n c k : Nat) (z : Nat → Int) (m : Int) (hs : Src w B g a n c z k) (hk : k < n) (h : 1 ≤ m) (hm : m ≤ 1099511627776) :
    Calls Tryz.prog 26 #[.pointer (some ⟨g, 0, none⟩), .int .i64 m] w fun e w' => e = .returned (.int .i64 (z k % m)) ∧ ∃ q q', w' = ((w.drewN q).setCell ⟨g, 1, none⟩ (.int .i64 ((k + 1 : Nat) : Int))).drewN q' := by
  have hn := hs.most
  have hs1 := hs.next hk
  obtain ⟨b, o, rfl, hb, hc⟩ := hs.num k hk
  have hc2 : (w.setCell ⟨g, 1, none⟩ (.int .i64 ((k + 1 : Nat) : Int))).cell? ⟨b, o + k, none⟩ = some (.int .i64 (z k)) := by
    obtain ⟨b', o', e, _, hc'⟩ := hs1.num k hk
    injection e with e
    injection e with e1 e2
    subst e1
    subst e2
    exact hc'
  have c0 : w.cell? ⟨g, 0, none⟩ = some (.slice (some ⟨b, o, none⟩) n c) := hs.blk.cell 0
  have c1 : w.cell? ⟨g, 1, none⟩ = some (.int .i64 k) := hs.blk.cell 1
  have f1 : w.frozen? ⟨g, 1, none⟩ = false := hs.blk.frozen 1
  have c0' : (w.setCell ⟨g, 1, none⟩ (.int .i64 ((k + 1 : Nat) : Int))).cell? ⟨g, 0, none⟩ = some (.slice (some ⟨b, o, none⟩) n c) := hs1.blk.cell 0
  have c1' : (w.setCell ⟨g, 1, none⟩ (.int .i64 ((k + 1 : Nat) : Int))).cell? ⟨g, 1, none⟩ = some (.int .i64 ((k + 1 : Nat) : Int)) := hs1.blk.cell 1
  rw [Int.natCast_succ] at hc2 c0' c1'
  have HC := Lib.hid (And.intro c0' (And.intro c1' hc2))
  have KM := Lib.hid (fun W => mod_any (z k) m W h (by omega))
  clear hs hs1 hc2 c0' c1' hc
  have i0 : (0 : Int) ≤ (k : Int) := by omega
  have i1 : (k : Int) < (n : Int) := by omega
  have i2 : (k : Int) + 1 - 1 = (k : Int) := by omega
  have i3 : IntKind.i64.wrap ((k : Int) + 1 - 1) = (k : Int) := by rw [IntKind.wrap_i64]; omega
  have i4 : IntKind.i64.wrap (k : Int) = (k : Int) := by rw [IntKind.wrap_i64]; omega
  have d1 : decide (n ≤ k) = false := by simp; omega
  go_enter Tryz.func26, Tryz.ntmps26
  go_wp2_with fail
  go_quiet (fail)
  go_wp2_with fail
  refine wp_region_held_drew (S := fun w' => w'.cell? ⟨g, 0, none⟩ = some (.slice (some ⟨b, o, none⟩) n c) ∧ w'.cell? ⟨g, 1, none⟩ = some (.int .i64 ((k : Int) + 1)) ∧ w'.cell? ⟨b, o + k, none⟩ = some (.int .i64 (z k))) (by kernel_rfl) HC.out fun hS0 => ?_
  refine take_first 0 (v := .pointer (some ⟨g, 0, none⟩)) rfl (by kernel_rfl) (by kernel_rfl) (by kernel_rfl) (fun _ _ _ h => h) rfl (fun W' hW' => by go_simp) hS0 ?_
  refine take_first 1 (v := .pointer (some ⟨g, 0, none⟩)) rfl (by kernel_rfl) (by kernel_rfl) (by kernel_rfl) (fun _ _ _ h => h) rfl (fun W' hW' => by go_simp) hS0 ?_
  refine take_first 2 (v := .pointer (some ⟨g, 0, none⟩)) rfl (by kernel_rfl) (by kernel_rfl) (by kernel_rfl) (fun _ _ _ h => h) rfl (fun W' hW' => by go_simp) hS0 ?_
  refine take_first 3 (v := .slice (some ⟨b, o, none⟩) n c) rfl (by kernel_rfl) (by kernel_rfl) (by kernel_rfl) (fun _ _ _ h => h) rfl (fun W' hW' => by obtain ⟨q0, q1, q2⟩ := hW'; go_simp) hS0 ?_
  refine take_first 4 (v := .pointer (some ⟨g, 0, none⟩)) rfl (by kernel_rfl) (by kernel_rfl) (by kernel_rfl) (fun _ _ _ h => h) rfl (fun W' hW' => by go_simp) hS0 ?_
  refine take_first 5 (v := .pointer (some ⟨g, 0, none⟩)) rfl (by kernel_rfl) (by kernel_rfl) (by kernel_rfl) (fun _ _ _ h => h) rfl (fun W' hW' => by go_simp) hS0 ?_
  refine take_first 6 (v := .pointer (some ⟨g, 1, none⟩)) rfl (by kernel_rfl) (by kernel_rfl) (by kernel_rfl) (fun _ _ _ h => h) rfl (fun W' hW' => by go_simp) hS0 ?_
  refine take_first 7 (v := .int .i64 ((k : Int) + 1)) rfl (by kernel_rfl) (by kernel_rfl) (by kernel_rfl) (fun _ _ _ h => h) rfl (fun W' hW' => by obtain ⟨q0, q1, q2⟩ := hW'; go_simp) hS0 ?_
  refine take_first 8 (v := .int .i64 k) rfl (by kernel_rfl) (by kernel_rfl) (by kernel_rfl) (fun _ _ _ h => h) rfl (fun W' hW' => by go_simp) hS0 ?_
  refine take_first 9 (v := .pointer (some ⟨b, o + k, none⟩)) rfl (by kernel_rfl) (by kernel_rfl) (by kernel_rfl) (fun _ _ _ h => h) rfl (fun W' hW' => by go_simp) hS0 ?_
  refine take_first 10 (v := .int .i64 (z k)) rfl (by kernel_rfl) (by kernel_rfl) (by kernel_rfl) (fun _ _ _ h => h) rfl (fun W' hW' => by obtain ⟨q0, q1, q2⟩ := hW'; go_simp) hS0 ?_
  refine take_first 11 (v := .int .i64 m) rfl (by kernel_rfl) (by kernel_rfl) (by kernel_rfl) (fun _ _ _ h => h) rfl (fun W' hW' => by go_simp) hS0 ?_
  refine one_next 12 (by kernel_rfl) rfl rfl fun K12 hK12 => ?_
  have HK12 := Lib.hid hK12
  clear hK12
  go_simp
  refine (KM.out _).mono ?_
  rintro e w' ⟨rfl, rfl⟩
  refine HK12.out _ _ hS0 ?_
  refine one_next 13 (by kernel_rfl) rfl rfl fun K13 hK13 => ?_
  have HK13 := Lib.hid hK13
  clear hK13
  go_simp
  refine HK13.out _ _ hS0 ?_
  refine wpAnyH_done (by kernel_rfl) ?_ _
  clear HK12 HK13 hS0 HC
  go_simp
  go_wp2_with fail
  go_ret
  refine ⟨rfl, ?_⟩
  rw [Int.natCast_succ]
  exact ⟨_, 1, rfl⟩

/-- A number from 0 to m - 1; the tape, and nothing else that was there, may have turned. -/
def Given (B g : Nat) (a : Option Addr) (n c : Nat) (z : Nat → Int) (m : Int) (w : World) (e : Ending) (w' : World) : Prop :=
  ∃ r k', 0 ≤ r ∧ r < m ∧ e = .returned (.int .i64 r) ∧ Src w' B g a n c z k' ∧ w.grownBy w' (some g)
theorem next_any (w : World) (B g : Nat) (a : Option Addr) (n c : Nat) (z : Nat → Int) (m : Int) (hs : ∃ k, Src w B g a n c z k) (h : 1 ≤ m) (hm : m ≤ 1099511627776) :
    Calls Tryz.prog 26 #[.pointer (some ⟨g, 0, none⟩), .int .i64 m] w (Given B g a n c z m w) := by
  obtain ⟨k, hs⟩ := hs
  rcases Nat.lt_or_ge k n with hk | hk
  · refine (next_more w B g a n c k z m hs hk h hm).mono ?_
    rintro e w' ⟨rfl, q, q', rfl⟩
    exact ⟨_, _, Int.emod_nonneg _ (by omega), Int.emod_lt_of_pos _ (by omega), rfl, ((hs.drewN q).next hk).drewN q', grown_drewN (grown_setCell (grown_drewN (grown_refl _ _) q) (.inl rfl) _) q'⟩
  · refine (next_end w B g a n c k z m hs hk).mono ?_
    rintro e w' ⟨rfl, q, rfl⟩
    exact ⟨0, k, by omega, by omega, rfl, hs.drewN q, grown_drewN (grown_refl _ _) q⟩
theorem tape_new (w : World) (a : Option Addr) (n c : Nat) (z : List Int) (hz : IsRow .i64 w a n c z) (hn : n ≤ 9223372036854775807) :
    Calls Tryz.prog 9 #[.slice a n c] w fun e w' => e = .returned (.pointer (some ⟨w.heap.size, 0, none⟩)) ∧ Src w' w.heap.size w.heap.size a n c (fun i => z.getD i 0) 0 ∧ Below w.heap.size w w' := by
  have hs : Src (w.alloc (.cells #[.slice a n c, .int .i64 0] 57)) w.heap.size w.heap.size a n c (fun i => z.getD i 0) 0 :=
    ⟨Blk.new w _ _, Nat.le_refl _, by omega, hn, fun i hi => by
      obtain ⟨b, o, e, hlt, hc⟩ := hz.num i hi
      exact ⟨b, o, e, hlt, (World.cell?_alloc_lt w _ _ hlt).trans hc⟩⟩
  have bel := (Below.refl w.heap.size w).alloc (Nat.le_refl _) (.cells #[.slice a n c, .int .i64 0] 57)
  have HS := Lib.hid hs
  clear hs hz
  go_enter Tryz.func9, Tryz.ntmps9
  go_wp2_with fail
  go_ret
  exact ⟨rfl, HS.out, bel⟩
theorem light_any (w : World) (a : Option Addr) (n c : Nat) : Calls Tryz.prog 6 #[.slice a n c] w fun e w' => e = .returned (.bool (decide (n ≤ 120))) ∧ w = w' := by
  go_enter Tryz.func6, Tryz.ntmps6
  go_wp2_with fail
  go_ret
  exact ⟨by simp; omega, rfl⟩

theorem range_any (w : World) (B g : Nat) (a : Option Addr) (n c : Nat) (z : Nat → Int) (lo hi : Int) (hs : ∃ k, Src w B g a n c z k) (h : lo ≤ hi) (h0 : -1073741824 ≤ lo) (hm : hi ≤ 1073741824) :
    Calls Tryz.prog 45 #[.pointer (some ⟨g, 0, none⟩), .int .i64 lo, .int .i64 hi] w fun e w' => ∃ r k', lo ≤ r ∧ r ≤ hi ∧ e = .returned (.int .i64 r) ∧ Src w' B g a n c z k' ∧ w.grownBy w' (some g) := by
  have KN := Lib.hid (next_any w B g a n c z (hi - lo + 1) hs (by omega) (by omega))
  clear hs
  go_enter Tryz.func45, Tryz.ntmps45
  go_wp2_with fail
  refine KN.out.mono ?_
  rintro e w1 ⟨r, k', hr0, hr1, rfl, hs1, hg1⟩
  have HS := Lib.hid hs1
  have HG := Lib.hid hg1
  clear hs1 hg1 KN
  go_wp2_with fail
  go_ret
  exact ⟨lo + r, k', by omega, by omega, rfl, HS.out, HG.out⟩
end Go.Proofs.YtefdjdipbnnoaaaGreatDoor
