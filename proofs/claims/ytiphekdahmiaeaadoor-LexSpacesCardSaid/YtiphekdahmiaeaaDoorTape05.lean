/-
  cncmake.Mod, Between, Light, New and Next; cncstage.Line: a line of at most 200 bytes. Any list of numbers.
-/
import Derived.Test.YtiphekdahmiaeaaDoorTok05
import Derived.Test.YtiphekdahmiaeaaDoorHeldBy
namespace Go.Proofs.YtiphekdahmiaeaaDoor
open Go Go.RowKit
set_option linter.unusedVariables false

theorem tmod_bd (v n : Int) (h : 1 ≤ n) : -n < v.tmod n ∧ v.tmod n < n := by
  have h0 := Int.emod_nonneg v (show n ≠ 0 by omega)
  have h1 := Int.emod_lt_of_pos v (show 0 < n by omega)
  rw [Int.tmod_eq_emod]
  split <;> omega
theorem tmod_emod (v n : Int) (h : 1 ≤ n) : (v.tmod n < 0 → v.tmod n + n = v % n) ∧ (¬ v.tmod n < 0 → v.tmod n = v % n) := by
  have h0 := Int.emod_nonneg v (show n ≠ 0 by omega)
  have h1 := Int.emod_lt_of_pos v (show 0 < n by omega)
  rw [Int.tmod_eq_emod]
  split <;> omega
theorem mod_any (v n : Int) (w : World) (h : 1 ≤ n) (hn : n ≤ 9007199254740992) :
    Calls Tryd.prog 17 #[.int .i64 v, .int .i64 n] w fun e w' => e = .returned (.int .i64 (v % n)) ∧ w = w' := by
  obtain ⟨h3, h4⟩ := tmod_emod v n h
  obtain ⟨h1, h2⟩ := tmod_bd v n h
  have d0 : (n == 0) = false := by simp; omega
  by_cases hr : v.tmod n < 0
  · have H := Lib.hid (h3 hr)
    clear h3 h4
    go_enter Tryd.func17, Tryd.ntmps17
    go_wp2
    go_ret
    exact ⟨ret_int H.out, rfl⟩
  · have H := Lib.hid (h4 hr)
    clear h3 h4
    go_enter Tryd.func17, Tryd.ntmps17
    go_wp2
    go_ret
    exact ⟨ret_int H.out, rfl⟩
theorem between_any (v lo hi : Int) (w : World) (h : lo ≤ hi) (h1 : -1125899906842624 ≤ lo) (h2 : hi ≤ 1125899906842624) :
    Calls Tryd.prog 23 #[.int .i64 v, .int .i64 lo, .int .i64 hi] w fun e w' => e = .returned (.int .i64 (lo + v % (hi - lo + 1))) ∧ w = w' := by
  have hm := fun W => mod_any v (hi - lo + 1) W (by omega) (by omega)
  have hr1 := Int.emod_nonneg v (show hi - lo + 1 ≠ 0 by omega)
  have hr2 := Int.emod_lt_of_pos v (show 0 < hi - lo + 1 by omega)
  generalize v % (hi - lo + 1) = r at *
  have HM := Lib.hid hm
  clear hm
  go_enter Tryd.func23, Tryd.ntmps23
  go_wp2_with (go_at_call 17; refine (HM.out _).mono ?_; rintro e w' ⟨rfl, rfl⟩)
  go_ret
  exact ⟨rfl, rfl⟩
theorem between_bd (v lo hi : Int) (h : lo ≤ hi) : lo ≤ lo + v % (hi - lo + 1) ∧ lo + v % (hi - lo + 1) ≤ hi := by
  have hr1 := Int.emod_nonneg v (show hi - lo + 1 ≠ 0 by omega)
  have hr2 := Int.emod_lt_of_pos v (show 0 < hi - lo + 1 by omega)
  omega

/-- The source in block g: a slice, and how many numbers are used up; the numbers lie below block B. -/
structure Src (w : World) (B g : Nat) (a : Option Addr) (n c : Nat) (z : Nat → Int) (k : Nat) : Prop where
  blk : Blk w g 49 #[.slice a n c, .int .i64 k]
  old : B ≤ g
  used : k ≤ n
  most : n ≤ 9223372036854775807
  num : ∀ i, i < n → ∃ b o, a = some ⟨b, o, none⟩ ∧ b < B ∧ w.cell? ⟨b, o + i, none⟩ = some (.int .i64 (z i))
section
variable {w w' : World} {B g n c k : Nat} {a : Option Addr} {z : Nat → Int}
theorem Src.lt (h : Src w B g a n c z k) : g < w.heap.size := h.blk.lt
theorem Src.keep (h : Src w B g a n c z k) (hb : w'.heap[g]? = w.heap[g]?) (hc : ∀ p : Addr, p.block < B → w'.cell? p = w.cell? p) : Src w' B g a n c z k :=
  ⟨hb.trans h.blk, h.old, h.used, h.most, fun i hi => by
    obtain ⟨b, o, e, hlt, hcell⟩ := h.num i hi
    exact ⟨b, o, e, hlt, (hc _ hlt).trans hcell⟩⟩
theorem Src.drewN (h : Src w B g a n c z k) (q : Nat) : Src (w.drewN q) B g a n c z k := h.keep rfl fun _ _ => rfl
theorem Src.drew (h : Src w B g a n c z k) : Src w.drew B g a n c z k := h.keep rfl fun _ _ => rfl
theorem Src.alloc (h : Src w B g a n c z k) (o : Obj) : Src (w.alloc o) B g a n c z k :=
  h.keep (Below.heap_alloc w o g h.lt) fun p hp => World.cell?_alloc_lt w o p (by have := h.lt; have := h.old; omega)
theorem Src.setCell (h : Src w B g a n c z k) {p : Addr} (hp : B ≤ p.block) (hg : p.block ≠ g) (u : Value) : Src (w.setCell p u) B g a n c z k :=
  h.keep (Below.heap_setCell w p u g (Ne.symm hg)) fun q hq => World.cell?_setCell_other w p q u (fun e => by subst e; omega)
theorem Src.next (h : Src w B g a n c z k) (hk : k < n) : Src (w.setCell ⟨g, 1, none⟩ (.int .i64 ((k + 1 : Nat) : Int))) B g a n c z (k + 1) :=
  ⟨h.blk.put 1 _, h.old, hk, h.most, fun i hi => by
    obtain ⟨b, o, e, hlt, hcell⟩ := h.num i hi
    exact ⟨b, o, e, hlt, (World.cell?_setCell_other w ⟨g, 1, none⟩ _ _ (fun e => by injection e with e _ _; have := h.old; omega)).trans hcell⟩⟩
theorem Src.setRow (h : Src w B g a n c z k) {g' : Nat} (hp : B ≤ g') (hg : g' ≠ g) (cs : Array Value) : Src (w.setRow g' cs) B g a n c z k :=
  h.keep (setRow_other w g' g cs (Ne.symm hg)) fun q hq => cell_setRow_other w g' cs q (by omega)
/-- Only the source may have turned, and what is new. -/
theorem Src.grown (h : Src w B g a n c z k) (hg : w.grownBy w' none) : Src w' B g a n c z k :=
  h.keep (hg.block g h.lt (by simp)) fun p hp => World.cell?_of_block (hg.block p.block (by have := h.lt; have := h.old; omega) (by simp))
end

theorem next_end (w : World) (B g : Nat) (a : Option Addr) (n c k : Nat) (z : Nat → Int) (m : Int) (hs : Src w B g a n c z k) (hk : n ≤ k) :
    Calls Tryd.prog 22 #[.pointer (some ⟨g, 0, none⟩), .int .i64 m] w fun e w' => e = .returned (.int .i64 0) ∧ ∃ q, w' = w.drewN q := by
  have c0 : w.cell? ⟨g, 0, none⟩ = some (.slice a n c) := hs.blk.cell 0
  have c1 : w.cell? ⟨g, 1, none⟩ = some (.int .i64 k) := hs.blk.cell 1
  have d1 : decide (n ≤ k) = true := by simpa using hk
  clear hs
  go_enter Tryd.func22, Tryd.ntmps22
  go_wp2_with fail
  go_quiet (fail)
  go_wp2
  go_ret
  exact ⟨rfl, _, rfl⟩
set_option maxRecDepth 100000 in
theorem next_more (w : World) (B g : Nat) (a : Option Addr) (n c k : Nat) (z : Nat → Int) (m : Int) (hs : Src w B g a n c z k) (hk : k < n) (h : 1 ≤ m) (hm : m ≤ 1099511627776) :
    Calls Tryd.prog 22 #[.pointer (some ⟨g, 0, none⟩), .int .i64 m] w fun e w' => e = .returned (.int .i64 (z k % m)) ∧ ∃ q q', w' = ((w.drewN q).setCell ⟨g, 1, none⟩ (.int .i64 ((k + 1 : Nat) : Int))).drewN q' := by
  have hn := hs.most
  have hs1 := hs.next hk
  obtain ⟨b, o, rfl, hb, hc⟩ := hs.num k hk
  have hc2 : (w.setCell ⟨g, 1, none⟩ (.int .i64 ((k + 1 : Nat) : Int))).cell? ⟨b, o + k, none⟩ = some (.int .i64 (z k)) := by
    obtain ⟨b', o', e, _, hc'⟩ := hs1.num k hk
    injection e with e
    injection e with e1 e2
    subst e1
    subst e2
    exact hc'
  have c0 : w.cell? ⟨g, 0, none⟩ = some (.slice (some ⟨b, o, none⟩) n c) := hs.blk.cell 0
  have c1 : w.cell? ⟨g, 1, none⟩ = some (.int .i64 k) := hs.blk.cell 1
  have f1 : w.frozen? ⟨g, 1, none⟩ = false := hs.blk.frozen 1
  have c0' : (w.setCell ⟨g, 1, none⟩ (.int .i64 ((k + 1 : Nat) : Int))).cell? ⟨g, 0, none⟩ = some (.slice (some ⟨b, o, none⟩) n c) := hs1.blk.cell 0
  have c1' : (w.setCell ⟨g, 1, none⟩ (.int .i64 ((k + 1 : Nat) : Int))).cell? ⟨g, 1, none⟩ = some (.int .i64 ((k + 1 : Nat) : Int)) := hs1.blk.cell 1
  rw [Int.natCast_succ] at hc2 c0' c1'
  have HC := Lib.hid (And.intro c0' (And.intro c1' hc2))
  have KM := Lib.hid (fun W => mod_any (z k) m W h (by omega))
  clear hs hs1 hc2 c0' c1' hc
  have i0 : (0 : Int) ≤ (k : Int) := by omega
  have i1 : (k : Int) < (n : Int) := by omega
  have i2 : (k : Int) + 1 - 1 = (k : Int) := by omega
  have i3 : IntKind.i64.wrap ((k : Int) + 1 - 1) = (k : Int) := by rw [IntKind.wrap_i64]; omega
  have i4 : IntKind.i64.wrap (k : Int) = (k : Int) := by rw [IntKind.wrap_i64]; omega
  have d1 : decide (n ≤ k) = false := by simp; omega
  go_enter Tryd.func22, Tryd.ntmps22
  go_wp2_with fail
  go_quiet (fail)
  go_wp2_with fail
  refine wp_region_held_drew (S := fun w' => w'.cell? ⟨g, 0, none⟩ = some (.slice (some ⟨b, o, none⟩) n c) ∧ w'.cell? ⟨g, 1, none⟩ = some (.int .i64 ((k : Int) + 1)) ∧ w'.cell? ⟨b, o + k, none⟩ = some (.int .i64 (z k))) (by kernel_rfl) HC.out fun hS0 => ?_
  refine take_first 0 (v := .pointer (some ⟨g, 0, none⟩)) rfl (by kernel_rfl) (by kernel_rfl) (by kernel_rfl) (fun _ _ _ h => h) rfl (fun W' hW' => by go_simp) hS0 ?_
  refine take_first 1 (v := .pointer (some ⟨g, 0, none⟩)) rfl (by kernel_rfl) (by kernel_rfl) (by kernel_rfl) (fun _ _ _ h => h) rfl (fun W' hW' => by go_simp) hS0 ?_
  refine take_first 2 (v := .pointer (some ⟨g, 0, none⟩)) rfl (by kernel_rfl) (by kernel_rfl) (by kernel_rfl) (fun _ _ _ h => h) rfl (fun W' hW' => by go_simp) hS0 ?_
  refine take_first 3 (v := .slice (some ⟨b, o, none⟩) n c) rfl (by kernel_rfl) (by kernel_rfl) (by kernel_rfl) (fun _ _ _ h => h) rfl (fun W' hW' => by obtain ⟨q0, q1, q2⟩ := hW'; go_simp) hS0 ?_
  refine take_first 4 (v := .pointer (some ⟨g, 0, none⟩)) rfl (by kernel_rfl) (by kernel_rfl) (by kernel_rfl) (fun _ _ _ h => h) rfl (fun W' hW' => by go_simp) hS0 ?_
  refine take_first 5 (v := .pointer (some ⟨g, 0, none⟩)) rfl (by kernel_rfl) (by kernel_rfl) (by kernel_rfl) (fun _ _ _ h => h) rfl (fun W' hW' => by go_simp) hS0 ?_
  refine take_first 6 (v := .pointer (some ⟨g, 1, none⟩)) rfl (by kernel_rfl) (by kernel_rfl) (by kernel_rfl) (fun _ _ _ h => h) rfl (fun W' hW' => by go_simp) hS0 ?_
  refine take_first 7 (v := .int .i64 ((k : Int) + 1)) rfl (by kernel_rfl) (by kernel_rfl) (by kernel_rfl) (fun _ _ _ h => h) rfl (fun W' hW' => by obtain ⟨q0, q1, q2⟩ := hW'; go_simp) hS0 ?_
  refine take_first 8 (v := .int .i64 k) rfl (by kernel_rfl) (by kernel_rfl) (by kernel_rfl) (fun _ _ _ h => h) rfl (fun W' hW' => by go_simp) hS0 ?_
  refine take_first 9 (v := .pointer (some ⟨b, o + k, none⟩)) rfl (by kernel_rfl) (by kernel_rfl) (by kernel_rfl) (fun _ _ _ h => h) rfl (fun W' hW' => by go_simp) hS0 ?_
  refine take_first 10 (v := .int .i64 (z k)) rfl (by kernel_rfl) (by kernel_rfl) (by kernel_rfl) (fun _ _ _ h => h) rfl (fun W' hW' => by obtain ⟨q0, q1, q2⟩ := hW'; go_simp) hS0 ?_
  refine take_first 11 (v := .int .i64 m) rfl (by kernel_rfl) (by kernel_rfl) (by kernel_rfl) (fun _ _ _ h => h) rfl (fun W' hW' => by go_simp) hS0 ?_
  refine one_next 12 (by kernel_rfl) rfl rfl fun K12 hK12 => ?_
  have HK12 := Lib.hid hK12
  clear hK12
  go_simp
  refine (KM.out _).mono ?_
  rintro e w' ⟨rfl, rfl⟩
  refine HK12.out _ _ hS0 ?_
  refine one_next 13 (by kernel_rfl) rfl rfl fun K13 hK13 => ?_
  have HK13 := Lib.hid hK13
  clear hK13
  go_simp
  refine HK13.out _ _ hS0 ?_
  refine wpAnyH_done (by kernel_rfl) ?_ _
  clear HK12 HK13 hS0 HC
  go_simp
  go_wp2_with fail
  go_ret
  refine ⟨rfl, ?_⟩
  rw [Int.natCast_succ]
  exact ⟨_, 1, rfl⟩

/-- A number from 0 to m - 1; the tape, and nothing else that was there, may have turned. -/
def Given (B g : Nat) (a : Option Addr) (n c : Nat) (z : Nat → Int) (m : Int) (w : World) (e : Ending) (w' : World) : Prop :=
  ∃ r k', 0 ≤ r ∧ r < m ∧ e = .returned (.int .i64 r) ∧ Src w' B g a n c z k' ∧ w.grownBy w' (some g)
theorem next_any (w : World) (B g : Nat) (a : Option Addr) (n c : Nat) (z : Nat → Int) (m : Int) (hs : ∃ k, Src w B g a n c z k) (h : 1 ≤ m) (hm : m ≤ 1099511627776) :
    Calls Tryd.prog 22 #[.pointer (some ⟨g, 0, none⟩), .int .i64 m] w (Given B g a n c z m w) := by
  obtain ⟨k, hs⟩ := hs
  rcases Nat.lt_or_ge k n with hk | hk
  · refine (next_more w B g a n c k z m hs hk h hm).mono ?_
    rintro e w' ⟨rfl, q, q', rfl⟩
    exact ⟨_, _, Int.emod_nonneg _ (by omega), Int.emod_lt_of_pos _ (by omega), rfl, ((hs.drewN q).next hk).drewN q', grown_drewN (grown_setCell (grown_drewN (grown_refl _ _) q) (.inl rfl) _) q'⟩
  · refine (next_end w B g a n c k z m hs hk).mono ?_
    rintro e w' ⟨rfl, q, rfl⟩
    exact ⟨0, k, by omega, by omega, rfl, hs.drewN q, grown_drewN (grown_refl _ _) q⟩
theorem tape_new (w : World) (a : Option Addr) (n c : Nat) (z : List Int) (hz : IsRow .i64 w a n c z) (hn : n ≤ 9223372036854775807) :
    Calls Tryd.prog 13 #[.slice a n c] w fun e w' => e = .returned (.pointer (some ⟨w.heap.size, 0, none⟩)) ∧ Src w' w.heap.size w.heap.size a n c (fun i => z.getD i 0) 0 ∧ Below w.heap.size w w' := by
  have hs : Src (w.alloc (.cells #[.slice a n c, .int .i64 0] 49)) w.heap.size w.heap.size a n c (fun i => z.getD i 0) 0 :=
    ⟨Blk.new w _ _, Nat.le_refl _, by omega, hn, fun i hi => by
      obtain ⟨b, o, e, hlt, hc⟩ := hz.num i hi
      exact ⟨b, o, e, hlt, (World.cell?_alloc_lt w _ _ hlt).trans hc⟩⟩
  have bel := (Below.refl w.heap.size w).alloc (Nat.le_refl _) (.cells #[.slice a n c, .int .i64 0] 49)
  have HS := Lib.hid hs
  clear hs hz
  go_enter Tryd.func13, Tryd.ntmps13
  go_wp2_with fail
  go_ret
  exact ⟨rfl, HS.out, bel⟩
theorem light_any (w : World) (a : Option Addr) (n c : Nat) : Calls Tryd.prog 10 #[.slice a n c] w fun e w' => e = .returned (.bool (decide (n ≤ 120))) ∧ w = w' := by
  go_enter Tryd.func10, Tryd.ntmps10
  go_wp2_with fail
  go_ret
  exact ⟨by simp; omega, rfl⟩

def partsC : Array Value := #[.string ⟨#[71]⟩, .string ⟨#[88]⟩, .string ⟨#[49]⟩, .string ⟨#[50, 46, 53]⟩, .string ⟨#[46, 53]⟩, .string ⟨#[32]⟩, .string ⟨#[9]⟩, .string ⟨#[35]⟩, .string ⟨#[91]⟩, .string ⟨#[93]⟩, .string ⟨#[43]⟩, .string ⟨#[45]⟩, .string ⟨#[42]⟩, .string ⟨#[47]⟩, .string ⟨#[61]⟩, .string ⟨#[73, 70]⟩, .string ⟨#[71, 79, 84, 79]⟩, .string ⟨#[69, 81]⟩, .string ⟨#[78]⟩, .string ⟨#[79]⟩, .string ⟨#[40, 97, 32, 99, 111, 109, 109, 101, 110, 116, 41]⟩, .string ⟨#[83, 73, 78]⟩, .string ⟨#[65, 84, 65, 78]⟩, .string ⟨#[87, 72, 73, 76, 69]⟩, .string ⟨#[68, 79]⟩, .string ⟨#[69, 78, 68]⟩, .string ⟨#[77, 79, 68]⟩, .string ⟨#[65, 78, 68]⟩, .string ⟨#[49, 48]⟩, .string ⟨#[48]⟩, .string ⟨#[77]⟩, .string ⟨#[80]⟩]
theorem partsC_at (i : Nat) (h : i < 32) : ∃ B : ByteArray, partsC[i]? = some (.string B) ∧ B.size ≤ 11 := by
  match i, h with
  | 0, _ => exact ⟨_, rfl, by decide⟩
  | 1, _ => exact ⟨_, rfl, by decide⟩
  | 2, _ => exact ⟨_, rfl, by decide⟩
  | 3, _ => exact ⟨_, rfl, by decide⟩
  | 4, _ => exact ⟨_, rfl, by decide⟩
  | 5, _ => exact ⟨_, rfl, by decide⟩
  | 6, _ => exact ⟨_, rfl, by decide⟩
  | 7, _ => exact ⟨_, rfl, by decide⟩
  | 8, _ => exact ⟨_, rfl, by decide⟩
  | 9, _ => exact ⟨_, rfl, by decide⟩
  | 10, _ => exact ⟨_, rfl, by decide⟩
  | 11, _ => exact ⟨_, rfl, by decide⟩
  | 12, _ => exact ⟨_, rfl, by decide⟩
  | 13, _ => exact ⟨_, rfl, by decide⟩
  | 14, _ => exact ⟨_, rfl, by decide⟩
  | 15, _ => exact ⟨_, rfl, by decide⟩
  | 16, _ => exact ⟨_, rfl, by decide⟩
  | 17, _ => exact ⟨_, rfl, by decide⟩
  | 18, _ => exact ⟨_, rfl, by decide⟩
  | 19, _ => exact ⟨_, rfl, by decide⟩
  | 20, _ => exact ⟨_, rfl, by decide⟩
  | 21, _ => exact ⟨_, rfl, by decide⟩
  | 22, _ => exact ⟨_, rfl, by decide⟩
  | 23, _ => exact ⟨_, rfl, by decide⟩
  | 24, _ => exact ⟨_, rfl, by decide⟩
  | 25, _ => exact ⟨_, rfl, by decide⟩
  | 26, _ => exact ⟨_, rfl, by decide⟩
  | 27, _ => exact ⟨_, rfl, by decide⟩
  | 28, _ => exact ⟨_, rfl, by decide⟩
  | 29, _ => exact ⟨_, rfl, by decide⟩
  | 30, _ => exact ⟨_, rfl, by decide⟩
  | 31, _ => exact ⟨_, rfl, by decide⟩
  | n + 32, h => exact absurd h (by omega)
theorem infoStr5 : (Tryd.prog.info? 9).map (fun i => (i.zero, i.size, i.bytes)) = some (some (.string ⟨#[]⟩), 1, 16) := by kernel_rfl
def LinePost (B g : Nat) (a : Option Addr) (n c : Nat) (z : Nat → Int) (w : World) (e : Ending) (w' : World) : Prop := ∃ L : ByteArray, L.size ≤ 200 ∧ e = .returned (.string L) ∧ (∃ k, Src w' B g a n c z k) ∧ w.grownBy w' (some g)
theorem size_app (a b : ByteArray) : (a ++ b).size = a.size + b.size := ByteArray.size_append
set_option maxRecDepth 100000 in
set_option maxHeartbeats 2000000 in
theorem line_any (w : World) (B g : Nat) (a : Option Addr) (n c : Nat) (z : Nat → Int) (hs : ∃ k, Src w B g a n c z k) : Calls Tryd.prog 12 #[.pointer (some ⟨g, 0, none⟩)] w (LinePost B g a n c z w) := by
  obtain ⟨i0, hi, hz0, hz1, hz2⟩ := info_parts infoStr5
  have hgl : g < w.heap.size := by obtain ⟨k, h⟩ := hs; exact h.lt
  have hs1 : ∃ k, Src (w.alloc (.cells partsC 9)) B g a n c z k := by obtain ⟨k, h⟩ := hs; exact ⟨k, h.alloc _⟩
  have hp1 := Blk.new w 9 partsC
  have KN := Lib.hid (next_any (w.alloc (.cells partsC 9)) B g a n c z 12 hs1 (by omega) (by omega))
  have g1 : w.grownBy (w.alloc (.cells partsC 9)) (some g) := grown_alloc (grown_refl _ _) _
  clear hs hs1
  go_enter Tryd.func12, Tryd.ntmps12
  go_wp2_with ((with_reducible refine go_buildSlice 34 9 32 _ partsC i0 _ Tryd.underlying34 hi hz0 (by rw [hz1]; decide) (by rw [hz1]; decide) (by rw [hz1]; with_unfolding_all kernel_rfl) ?_))
  refine KN.out.mono ?_
  rintro e w1 ⟨r, k', hr0, hr1, rfl, hs1, hg1⟩
  have hp2 : Blk w1 w.heap.size 9 partsC := hp1.grown hg1 (fun e => by have := Option.some.inj e; omega)
  have g2 := grown_trans g1 hg1
  have HS := Lib.hid hs1
  have HP := Lib.hid hp2
  clear KN hs1 hp1 hp2 hg1 g1
  go_wp2_with fail
  go_loopw [4, 5] (fun s4 s5 wr => ∃ (L : ByteArray) (r : Int), s4 = .string L ∧ s5 = .int .i64 r ∧ 0 ≤ r ∧ r ≤ 12 ∧ (L.size : Int) + 11 * r ≤ 132 ∧ (∃ k, Src wr B g a n c z k) ∧ Blk wr w.heap.size 9 partsC ∧ w.grownBy wr (some g))
    (fun _ s5 _ => (intOf s5).toNat)
  case atStart => exact ⟨⟨#[]⟩, r, rfl, rfl, hr0, by omega, by have : (⟨#[]⟩ : ByteArray).size = 0 := rfl; omega, ⟨k', HS.out⟩, HP.out, g2⟩
  case round =>
    clear HS HP g2
    obtain ⟨L, r, rfl, rfl, hr0, hr12, hL, hs, hp, gr⟩ := hrel
    by_cases hlt : 0 < r
    · have KN := Lib.hid (next_any wr B g a n c z 32 hs (by omega) (by omega))
      have HP := Lib.hid hp
      have d1 : decide (0 < r) = true := by simpa using hlt
      clear hs hp
      go_wp2_with fail
      refine KN.out.mono ?_
      rintro e w2 ⟨q, k2, hq0, hq1, rfl, hs2, hg2⟩
      have hp2 : Blk w2 w.heap.size 9 partsC := HP.out.grown hg2 (fun e => by have := Option.some.inj e; omega)
      have gr2 := grown_trans gr hg2
      obtain ⟨D, hD, hD11⟩ := partsC_at q.toNat (by omega)
      have cD := hp2.cell' q.toNat hD
      have hsum : (L.size : Int) + (D.size : Int) ≤ 1000 := by omega
      have hgt : ¬ L.size + D.size > 9223372036854775807 := by omega
      have HSZ := Lib.hid (size_app L D)
      have HS := Lib.hid hs2
      have HP2 := Lib.hid hp2
      clear hs2 hp2 hg2 gr KN HP hD
      go_wp2_with fail
      go_roundw
      case rel => exact ⟨L ++ D, r - 1, rfl, rfl, by omega, by omega, by rw [HSZ.out]; omega, ⟨k2, HS.out⟩, HP2.out, gr2⟩
      case measure => simp [intOf]; omega
    · have d1 : decide (0 < r) = false := by simpa using hlt
      have KN := Lib.hid (next_any wr B g a n c z 12 hs (by omega) (by omega))
      clear hs hp
      go_wp2_with fail
      refine KN.out.mono ?_
      rintro e w2 ⟨q, k2, hq0, hq1, rfl, hs2, hg2⟩
      have gr2 := grown_trans gr hg2
      have HS := Lib.hid hs2
      clear hs2 hg2 gr KN
      have hq : q = 0 ∨ ((q == 0) = false ∧ q = 1) ∨ ((q == 0) = false ∧ (q == 1) = false ∧ q = 2) ∨ ((q == 0) = false ∧ (q == 1) = false ∧ (q == 2) = false ∧ q = 3) ∨ ((q == 0) = false ∧ (q == 1) = false ∧ (q == 2) = false ∧ (q == 3) = false) := by simp; omega
      rcases hq with rfl | ⟨q0, rfl⟩ | ⟨q0, q1, rfl⟩ | ⟨q0, q1, q2, rfl⟩ | ⟨q0, q1, q2, q3⟩
      · have HSZ := Lib.hid (size_app L ⟨#[59, 120]⟩)
        have hgt : ¬ L.size + (⟨#[59, 120]⟩ : ByteArray).size > 9223372036854775807 := by have : (⟨#[59, 120]⟩ : ByteArray).size = 2 := rfl; omega
        go_wp2_with fail
        go_ret
        exact ⟨_, by rw [HSZ.out]; have : (⟨#[59, 120]⟩ : ByteArray).size = 2 := rfl; omega, rfl, ⟨k2, HS.out⟩, gr2⟩
      · have HSZ := Lib.hid (size_app L ⟨#[40]⟩)
        have hgt : ¬ L.size + (⟨#[40]⟩ : ByteArray).size > 9223372036854775807 := by have : (⟨#[40]⟩ : ByteArray).size = 1 := rfl; omega
        go_wp2_with fail
        go_ret
        exact ⟨_, by rw [HSZ.out]; have : (⟨#[40]⟩ : ByteArray).size = 1 := rfl; omega, rfl, ⟨k2, HS.out⟩, gr2⟩
      · have HSZ := Lib.hid (size_app L ⟨#[49, 46, 50, 46, 51]⟩)
        have hgt : ¬ L.size + (⟨#[49, 46, 50, 46, 51]⟩ : ByteArray).size > 9223372036854775807 := by have : (⟨#[49, 46, 50, 46, 51]⟩ : ByteArray).size = 5 := rfl; omega
        go_wp2_with fail
        go_ret
        exact ⟨_, by rw [HSZ.out]; have : (⟨#[49, 46, 50, 46, 51]⟩ : ByteArray).size = 5 := rfl; omega, rfl, ⟨k2, HS.out⟩, gr2⟩
      · have HSZ := Lib.hid (size_app L ⟨#[103]⟩)
        have hgt : ¬ L.size + (⟨#[103]⟩ : ByteArray).size > 9223372036854775807 := by have : (⟨#[103]⟩ : ByteArray).size = 1 := rfl; omega
        go_wp2_with fail
        go_ret
        exact ⟨_, by rw [HSZ.out]; have : (⟨#[103]⟩ : ByteArray).size = 1 := rfl; omega, rfl, ⟨k2, HS.out⟩, gr2⟩
      · go_wp2_with fail
        go_ret
        exact ⟨L, by omega, rfl, ⟨k2, HS.out⟩, gr2⟩
end Go.Proofs.YtiphekdahmiaeaaDoor
