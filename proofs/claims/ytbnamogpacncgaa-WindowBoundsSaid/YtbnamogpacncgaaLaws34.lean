/-
  What the functions of the packages window, cncref34 and cnclaw34 leave.
-/
import Derived.Test.YtbnamogpacncgaaRows
import Derived.Test.YtbnamogpacncgaaTab
import Derived.Test.YtbnamogpacncgaaHeld
namespace Go.Proofs.Ytbnamogpacncgaa
open Go Go.RowKit
set_option linter.unusedVariables false

structure MarkV where
  pos : Int
  kind : Int
  item : Int
def mcell (m : MarkV) : List Value := [.int .i64 m.pos, .int .i64 m.kind, .int .i64 m.item]
/-- Marks that came in. -/
theorem marks_in {w : World} {a : Option Addr} {len cap : Nat} (h : Leaf w (.tab markKs) (.slice a len cap)) : ∃ m : Nat → MarkV, TabAt w a 3 len (fun i => mcell (m i)) ∧ len ≤ 9223372036854775807 := by
  obtain ⟨f, ht, hl, hm, h0⟩ := TabAt.of_leaf h (C := 3) rfl (by omega)
  have hx : ∀ i, ∃ m : MarkV, i < len → f i = mcell m := by
    intro i
    by_cases hi : i < len
    · have hl := hl i hi
      unfold markKs at hl
      obtain ⟨v0, c, e0, l0, hl⟩ := hl.cons
      obtain ⟨v1, c, rfl, l1, hl⟩ := hl.cons
      obtain ⟨v2, c, rfl, l2, hl⟩ := hl.cons
      cases hl.end
      obtain ⟨z0, rfl, _⟩ := l0.num
      obtain ⟨z1, rfl, _⟩ := l1.num
      obtain ⟨z2, rfl, _⟩ := l2.num
      exact ⟨⟨z0, z1, z2⟩, fun _ => e0⟩
    · exact ⟨⟨0, 0, 0⟩, fun h => absurd h hi⟩
  exact ⟨fun i => (hx i).choose, ht.congr (fun i hi => (hx i).choose_spec hi), hm⟩
theorem mark_in {w : World} {c : List Value} (h : Leaves w markKs c) : ∃ p q r : Int, c.toArray = #[.int .i64 p, .int .i64 q, .int .i64 r] := by
  unfold markKs at h
  obtain ⟨v0, c, rfl, l0, h⟩ := h.cons
  obtain ⟨v1, c, rfl, l1, h⟩ := h.cons
  obtain ⟨v2, c, rfl, l2, h⟩ := h.cons
  cases h.end
  obtain ⟨z0, rfl, _⟩ := l0.num
  obtain ⟨z1, rfl, _⟩ := l1.num
  obtain ⟨z2, rfl, _⟩ := l2.num
  exact ⟨z0, z1, z2, rfl⟩
theorem override_in {w : World} {c : List Value} (h : Leaves w overrideKs c) : ∃ (f rp : Int) (h si op : Bool), c.toArray = #[.int .i64 f, .int .i64 rp, .bool h, .bool si, .bool op] := by
  unfold overrideKs at h
  obtain ⟨v0, c, rfl, l0, h⟩ := h.cons
  obtain ⟨v1, c, rfl, l1, h⟩ := h.cons
  obtain ⟨v2, c, rfl, l2, h⟩ := h.cons
  obtain ⟨v3, c, rfl, l3, h⟩ := h.cons
  obtain ⟨v4, c, rfl, l4, h⟩ := h.cons
  cases h.end
  obtain ⟨z0, rfl, _⟩ := l0.num
  obtain ⟨z1, rfl, _⟩ := l1.num
  obtain ⟨b2, rfl⟩ := l2.flag
  obtain ⟨b3, rfl⟩ := l3.flag
  obtain ⟨b4, rfl⟩ := l4.flag
  exact ⟨z0, z1, b2, b3, b4, rfl⟩

/-- Does the machine have to stop at a mark of this kind? -/
def act (q : Int) (si op : Bool) : Bool := if q = 1 ∨ q = 3 ∨ q = 6 then true else if q = 4 then op || si else if q = 2 then si else false
theorem active_any (p q r f rp : Int) (h si op : Bool) (w : World) :
    Calls Try.prog 8 #[.agg #[.int .i64 p, .int .i64 q, .int .i64 r], .agg #[.int .i64 f, .int .i64 rp, .bool h, .bool si, .bool op]] w fun e w' => e = .returned (.bool (act q si op)) ∧
      w' = (w.alloc (.cells #[.int .i64 p, .int .i64 q, .int .i64 r] 23)).alloc (.cells #[.int .i64 f, .int .i64 rp, .bool h, .bool si, .bool op] 25) := by
  have cases : q = 1 ∨ q = 3 ∨ q = 6 ∨ q = 4 ∨ q = 2 ∨ (q ≠ 1 ∧ q ≠ 3 ∧ q ≠ 6 ∧ q ≠ 4 ∧ q ≠ 2) := by omega
  rcases cases with rfl | rfl | rfl | rfl | rfl | ⟨h1, h2, h3, h4, h5⟩
  · go_enter Try.func8, Try.ntmps8
    go_wp2_with fail
    go_ret
    exact ⟨rfl, rfl⟩
  · go_enter Try.func8, Try.ntmps8
    go_wp2_with fail
    go_ret
    exact ⟨rfl, rfl⟩
  · go_enter Try.func8, Try.ntmps8
    go_wp2_with fail
    go_ret
    exact ⟨rfl, rfl⟩
  · cases si <;> cases op
    all_goals
      go_enter Try.func8, Try.ntmps8
      go_wp2_with fail
      go_ret
      exact ⟨rfl, rfl⟩
  · cases si
    all_goals
      go_enter Try.func8, Try.ntmps8
      go_wp2_with fail
      go_ret
      exact ⟨rfl, rfl⟩
  · have e : act q si op = false := by unfold act; simp [h1, h2, h3, h4, h5]
    rw [e]
    clear e
    go_enter Try.func8, Try.ntmps8
    go_wp2_with fail
    go_ret
    exact ⟨rfl, rfl⟩
theorem ractive_any (p q r f rp : Int) (h si op : Bool) (w : World) :
    Calls Try.prog 9 #[.agg #[.int .i64 p, .int .i64 q, .int .i64 r], .agg #[.int .i64 f, .int .i64 rp, .bool h, .bool si, .bool op]] w fun e w' => e = .returned (.bool (act q si op)) ∧
      w' = (w.alloc (.cells #[.int .i64 p, .int .i64 q, .int .i64 r] 23)).alloc (.cells #[.int .i64 f, .int .i64 rp, .bool h, .bool si, .bool op] 25) := by
  have cases : q = 1 ∨ q = 3 ∨ q = 6 ∨ q = 4 ∨ q = 2 ∨ (q ≠ 1 ∧ q ≠ 3 ∧ q ≠ 6 ∧ q ≠ 4 ∧ q ≠ 2) := by omega
  rcases cases with rfl | rfl | rfl | rfl | rfl | ⟨h1, h2, h3, h4, h5⟩
  · go_enter Try.func9, Try.ntmps9
    go_wp2_with fail
    go_ret
    exact ⟨rfl, rfl⟩
  · go_enter Try.func9, Try.ntmps9
    go_wp2_with fail
    go_ret
    exact ⟨rfl, rfl⟩
  · go_enter Try.func9, Try.ntmps9
    go_wp2_with fail
    go_ret
    exact ⟨rfl, rfl⟩
  · cases si <;> cases op
    all_goals
      go_enter Try.func9, Try.ntmps9
      go_wp2_with fail
      go_ret
      exact ⟨rfl, rfl⟩
  · cases si
    all_goals
      go_enter Try.func9, Try.ntmps9
      go_wp2_with fail
      go_ret
      exact ⟨rfl, rfl⟩
  · have e : act q si op = false := by unfold act; simp [h1, h2, h3, h4, h5]
    rw [e]
    clear e
    go_enter Try.func9, Try.ntmps9
    go_wp2_with fail
    go_ret
    exact ⟨rfl, rfl⟩

/-- Is this mark the one that Next looks for? -/
def Hit (m : Nat → MarkV) (si op : Bool) (known from' : Int) (j : Nat) : Prop := act (m j).kind si op = true ∧ from' ≤ (m j).pos ∧ (m j).pos ≤ known
/-- What Next returns. -/
def NextIs (m : Nat → MarkV) (n first : Nat) (si op : Bool) (known from' a i : Int) : Prop :=
  (∃ j : Nat, first ≤ j ∧ j < n ∧ Hit m si op known from' j ∧ (∀ t, first ≤ t → t < j → ¬ Hit m si op known from' t) ∧ i = j ∧ a = (m j).pos) ∨ ((∀ t, first ≤ t → t < n → ¬ Hit m si op known from' t) ∧ i = -1 ∧ a = known)
theorem NextIs.one {m : Nat → MarkV} {n first : Nat} {si op : Bool} {known from' a i b j : Int} (h : NextIs m n first si op known from' a i) (k : NextIs m n first si op known from' b j) : a = b ∧ i = j := by
  rcases h with ⟨x, x0, x1, xh, xn, rfl, rfl⟩ | ⟨hn, rfl, rfl⟩
  · rcases k with ⟨y, y0, y1, yh, yn, rfl, rfl⟩ | ⟨kn, rfl, rfl⟩
    · rcases Nat.lt_trichotomy x y with h | h | h
      · exact absurd xh (yn x x0 h)
      · subst h; exact ⟨rfl, rfl⟩
      · exact absurd yh (xn y y0 h)
    · exact absurd xh (kn x x0 x1)
  · rcases k with ⟨y, y0, y1, yh, yn, rfl, rfl⟩ | ⟨kn, rfl, rfl⟩
    · exact absurd yh (hn y y0 y1)
    · exact ⟨rfl, rfl⟩
def NextDone (m : Nat → MarkV) (n first : Nat) (si op : Bool) (known from' : Int) (w : World) (e : Ending) (w' : World) : Prop :=
  ∃ a i : Int, e = .returned (.tuple #[.int .i64 a, .int .i64 i]) ∧ NextIs m n first si op known from' a i ∧ -1 ≤ i ∧ Below w.heap.size w w'

set_option maxHeartbeats 1000000 in
theorem next_any (a : Option Addr) (n c first : Nat) (m : Nat → MarkV) (f rp : Int) (h si op : Bool) (known from' : Int) (w : World) (hT : TabAt w a 3 n (fun i => mcell (m i))) (hn : n ≤ 60) (hf : first ≤ 9223372036854775807) :
    Calls Try.prog 11 #[.slice a n c, .int .i64 first, .agg #[.int .i64 f, .int .i64 rp, .bool h, .bool si, .bool op], .int .i64 known, .int .i64 from'] w (NextDone m n first si op known from' w) := by
  have hmax : max (first : Int) 0 = (first : Int) := by omega
  go_enter Try.func11, Try.ntmps11
  go_wp2_with fail
  go_loopw [12] (fun v12 wr => ∃ k : Nat, first ≤ k ∧ (k ≤ n ∨ k = first) ∧ v12 = .int .i64 k ∧ (∀ t, first ≤ t → t < k → ¬ Hit m si op known from' t) ∧ Blk wr w.heap.size 25 #[.int .i64 f, .int .i64 rp, .bool h, .bool si, .bool op] ∧ Below w.heap.size w wr)
    (fun v12 _ => n - (intOf v12).toNat)
  case atStart => exact ⟨first, Nat.le_refl _, .inr rfl, by go_num, fun t h1 h2 => by omega, Blk.new _ _ _, (Below.refl _ _).alloc (Nat.le_refl _) _⟩
  case round =>
    obtain ⟨k, hk0, hk1, rfl, hno, hb, bel⟩ := hrel
    have hsz := bel.size
    have hlt0 := hb.lt
    by_cases hlt : k < n
    · obtain ⟨_, b, o, rfl, hbl, hc⟩ := hT k hlt
      have e0 : wr.cell? ⟨b, o + k * 3, none⟩ = some (.int .i64 (m k).pos) := (bel.cell hbl).trans (hc 0 (by omega))
      have e1 : wr.cell? ⟨b, o + k * 3 + 1, none⟩ = some (.int .i64 (m k).kind) := (bel.cell hbl).trans (hc 1 (by omega))
      have e2 : wr.cell? ⟨b, o + k * 3 + 2, none⟩ = some (.int .i64 (m k).item) := (bel.cell hbl).trans (hc 2 (by omega))
      clear hc
      have HitK : Hit m si op known from' k ↔ act (m k).kind si op = true ∧ from' ≤ (m k).pos ∧ (m k).pos ≤ known := Iff.rfl
      have HK := Lib.hid HitK
      clear HitK
      have ac := fun W => active_any (m k).pos (m k).kind (m k).item f rp h si op W
      generalize hp : (m k).pos = p at *
      generalize hq : (m k).kind = q at *
      generalize hr : (m k).item = r at *
      generalize hA : act q si op = A at *
      have AC := Lib.hid ac
      clear ac
      have d0 := hb.cell 0
      have d1 := hb.cell 1
      have d2 := hb.cell 2
      have d3 := hb.cell 3
      have d4 := hb.cell 4
      simp at d0 d1 d2 d3 d4
      have i1 : (0 : Int) ≤ (k : Int) := by omega
      have i2 : (k : Int) < (n : Int) := by omega
      have four : (A = true ∧ from' ≤ p ∧ p ≤ known) ∨ A = false ∨ (A = true ∧ ¬ from' ≤ p) ∨ (A = true ∧ from' ≤ p ∧ ¬ p ≤ known) := by cases A <;> simp <;> omega
      rcases four with ⟨h1, h2, h3⟩ | four
      · subst h1
        go_wp2_with (go_at_call 8; refine (AC.out _).mono ?_; rintro e w' ⟨rfl, rfl⟩)
        go_ret2
        exact ⟨p, k, rfl, .inl ⟨k, hk0, hlt, HK.out.2 ⟨(by first | rfl | trivial), h2, h3⟩, hno, rfl, hp.symm⟩, by omega, ((bel.alloc hsz _).alloc (by simp; omega) _).alloc (by simp; omega) _⟩
      · have hno' : ∀ t, first ≤ t → t < k + 1 → ¬ Hit m si op known from' t := by
          intro t h1 h2
          by_cases e : t = k
          · subst e
            intro hh
            obtain ⟨g1, g2, g3⟩ := HK.out.1 hh
            rcases four with h | h | h
            · rw [g1] at h; cases h
            · exact h.2 g2
            · exact h.2.2 g3
          · exact hno t h1 (by omega)
        rcases four with h1 | ⟨h1, h2⟩ | ⟨h1, h2, h3⟩
        all_goals
          subst h1
          go_wp2_with (go_at_call 8; refine (AC.out _).mono ?_; rintro e w' ⟨rfl, rfl⟩)
          go_roundw
          case rel => exact ⟨k + 1, by omega, .inl hlt, by go_num, hno', ((hb.alloc _).alloc _).alloc _, ((bel.alloc hsz _).alloc (by simp; omega) _).alloc (by simp; omega) _⟩
          case measure => simp [intOf]; omega
    · go_wp2_with fail
      go_ret2
      exact ⟨known, -1, rfl, .inr ⟨fun t h1 h2 => hno t h1 (by omega), rfl, rfl⟩, by omega, bel⟩
set_option maxHeartbeats 1000000 in
theorem rnext_any (a : Option Addr) (n c first : Nat) (m : Nat → MarkV) (f rp : Int) (h si op : Bool) (known from' : Int) (w : World) (hT : TabAt w a 3 n (fun i => mcell (m i))) (hn : n ≤ 60) (hf : first ≤ 9223372036854775807) :
    Calls Try.prog 12 #[.slice a n c, .int .i64 first, .agg #[.int .i64 f, .int .i64 rp, .bool h, .bool si, .bool op], .int .i64 known, .int .i64 from'] w (NextDone m n first si op known from' w) := by
  go_enter Try.func12, Try.ntmps12
  go_wp2_with fail
  go_loopw [16] (fun v12 wr => ∃ k : Nat, k ≤ n ∧ v12 = .int .i64 k ∧ (∀ t, first ≤ t → t < k → ¬ Hit m si op known from' t) ∧ Blk wr w.heap.size 25 #[.int .i64 f, .int .i64 rp, .bool h, .bool si, .bool op] ∧ Below w.heap.size w wr)
    (fun v12 _ => n - (intOf v12).toNat)
  case atStart => exact ⟨0, by omega, rfl, fun t h1 h2 => by omega, Blk.new _ _ _, (Below.refl _ _).alloc (Nat.le_refl _) _⟩
  case round =>
    obtain ⟨k, hk1, rfl, hno, hb, bel⟩ := hrel
    have hsz := bel.size
    have hlt0 := hb.lt
    by_cases hlt : k < n
    · obtain ⟨_, b, o, rfl, hbl, hc⟩ := hT k hlt
      have e0 : wr.cell? ⟨b, o + k * 3, none⟩ = some (.int .i64 (m k).pos) := (bel.cell hbl).trans (hc 0 (by omega))
      have e1 : wr.cell? ⟨b, o + k * 3 + 1, none⟩ = some (.int .i64 (m k).kind) := (bel.cell hbl).trans (hc 1 (by omega))
      have e2 : wr.cell? ⟨b, o + k * 3 + 2, none⟩ = some (.int .i64 (m k).item) := (bel.cell hbl).trans (hc 2 (by omega))
      clear hc
      have HitK : Hit m si op known from' k ↔ act (m k).kind si op = true ∧ from' ≤ (m k).pos ∧ (m k).pos ≤ known := Iff.rfl
      have HK := Lib.hid HitK
      clear HitK
      have ac := fun W => ractive_any (m k).pos (m k).kind (m k).item f rp h si op W
      generalize hp : (m k).pos = p at *
      generalize hq : (m k).kind = q at *
      generalize hr : (m k).item = r at *
      generalize hA : act q si op = A at *
      have AC := Lib.hid ac
      clear ac
      have d0 := hb.cell 0
      have d1 := hb.cell 1
      have d2 := hb.cell 2
      have d3 := hb.cell 3
      have d4 := hb.cell 4
      simp at d0 d1 d2 d3 d4
      have i1 : (0 : Int) ≤ (k : Int) := by omega
      have i2 : (k : Int) < (n : Int) := by omega
      have four : (first ≤ k ∧ A = true ∧ from' ≤ p ∧ p ≤ known) ∨ ¬ first ≤ k ∨ (first ≤ k ∧ A = false) ∨ (first ≤ k ∧ A = true ∧ ¬ from' ≤ p) ∨ (first ≤ k ∧ A = true ∧ from' ≤ p ∧ ¬ p ≤ known) := by cases A <;> simp <;> omega
      rcases four with ⟨hk0, h1, h2, h3⟩ | four
      · subst h1
        have hk0' : (first : Int) ≤ (k : Int) := by omega
        go_wp2_with (go_at_call 9; refine (AC.out _).mono ?_; rintro e w' ⟨rfl, rfl⟩)
        go_ret2
        exact ⟨p, k, rfl, .inl ⟨k, hk0, hlt, HK.out.2 ⟨(by first | rfl | trivial), h2, h3⟩, hno, rfl, hp.symm⟩, by omega, ((bel.alloc hsz _).alloc (by simp; omega) _).alloc (by simp; omega) _⟩
      · have hno' : ∀ t, first ≤ t → t < k + 1 → ¬ Hit m si op known from' t := by
          intro t h1 h2
          by_cases e : t = k
          · subst e
            intro hh
            obtain ⟨g1, g2, g3⟩ := HK.out.1 hh
            rcases four with h | h | h | h
            · exact h h1
            · rw [g1] at h; exact absurd h.2 (by simp)
            · exact h.2.2 g2
            · exact h.2.2.2 g3
          · exact hno t h1 (by omega)
        rcases four with h0 | ⟨h0, h1⟩ | ⟨h0, h1, h2⟩ | ⟨h0, h1, h2, h3⟩
        · have h0' : ¬ (first : Int) ≤ (k : Int) := by omega
          have h0d : decide ((first : Int) ≤ (k : Int)) = false := decide_eq_false h0'
          go_wp2_with fail
          go_roundw
          case rel => exact ⟨k + 1, by omega, by go_num, hno', hb.alloc _, bel.alloc hsz _⟩
          case measure => simp [intOf]; omega
        all_goals
          subst h1
          have h0' : (first : Int) ≤ (k : Int) := by omega
          go_wp2_with (go_at_call 9; refine (AC.out _).mono ?_; rintro e w' ⟨rfl, rfl⟩)
          go_roundw
          case rel => exact ⟨k + 1, by omega, by go_num, hno', ((hb.alloc _).alloc _).alloc _, ((bel.alloc hsz _).alloc (by simp; omega) _).alloc (by simp; omega) _⟩
          case measure => simp [intOf]; omega
    · go_wp2_with fail
      go_ret2
      exact ⟨known, -1, rfl, .inr ⟨fun t h1 h2 => hno t h1 (by omega), rfl, rfl⟩, by omega, bel⟩

theorem sorted_any (a : Option Addr) (n c : Nat) (m : Nat → MarkV) (w : World) (hT : TabAt w a 3 n (fun i => mcell (m i))) :
    Calls Try.prog 10 #[.slice a n c] w fun e w' => (∃ r : Bool, e = .returned (.bool r) ∧ (r = true → n ≤ 60 ∧ ∀ i, i + 1 < n → (m i).pos ≤ (m (i + 1)).pos)) ∧ ∃ q, w' = w.drewN q := by
  by_cases hn : n ≤ 60
  · have d60 : decide ((60 : Int) < (n : Int)) = false := by simp; omega
    go_enter Try.func10, Try.ntmps10
    go_wp2_with fail
    go_loopw [3] (fun v3 wr => ∃ k q : Nat, 1 ≤ k ∧ (k ≤ n ∨ k = 1) ∧ v3 = .int .i64 k ∧ (∀ i, i + 1 < k → (m i).pos ≤ (m (i + 1)).pos) ∧ wr = w.drewN q)
      (fun v3 _ => n - (intOf v3).toNat)
    case atStart => exact ⟨1, 0, by omega, .inr rfl, rfl, fun i hi => by omega, rfl⟩
    case round =>
      obtain ⟨k, q, hk0, hk1, rfl, hs, rfl⟩ := hrel
      by_cases hlt : k < n
      · obtain ⟨_, b, o, rfl, hbl, hc⟩ := hT k hlt
        obtain ⟨_, b', o', eb, hbl', hc'⟩ := hT (k - 1) (by omega)
        cases eb
        have e0 : w.cell? ⟨b, o + k * 3, none⟩ = some (.int .i64 (m k).pos) := hc 0 (by omega)
        have e1 : w.cell? ⟨b, o + (k - 1) * 3, none⟩ = some (.int .i64 (m (k - 1)).pos) := hc' 0 (by omega)
        clear hc hc'
        have i1 : (0 : Int) ≤ (k : Int) := by omega
        have i2 : (k : Int) < (n : Int) := by omega
        have i3 : (0 : Int) ≤ (k : Int) - 1 := by omega
        have i4 : (k : Int) - 1 < (n : Int) := by omega
        have i5 : ((k : Int) - 1).toNat = k - 1 := by omega
        have i6 : IntKind.i64.wrap ((k : Int) - 1) = (k : Int) - 1 := by rw [IntKind.wrap_i64]; omega
        have hks : k - 1 + 1 = k := by omega
        by_cases hp : (m k).pos < (m (k - 1)).pos
        · go_wp2_with fail
          go_quiet (fail)
          go_wp2_with fail
          go_ret
          exact ⟨⟨false, rfl, by simp⟩, q + nq, by first | rfl | rw [World.drewN_drewN]⟩
        · have hp' : decide ((m k).pos < (m (k - 1)).pos) = false := decide_eq_false hp
          have hs' : ∀ i, i + 1 < k + 1 → (m i).pos ≤ (m (i + 1)).pos := by
            intro i hi
            by_cases e : i = k - 1
            · subst e; rw [hks]; omega
            · exact hs i (by omega)
          clear hp
          go_wp2_with fail
          go_quiet (fail)
          go_wp2_with fail
          go_roundw
          case rel => exact ⟨k + 1, _, by omega, .inl hlt, by go_num, hs', rfl⟩
          case measure => simp [intOf]; omega
      · go_wp2_with fail
        go_ret
        exact ⟨⟨true, rfl, fun _ => ⟨hn, fun i hi => hs i (by omega)⟩⟩, _, rfl⟩
  · have d60 : decide ((60 : Int) < (n : Int)) = true := by simp; omega
    go_enter Try.func10, Try.ntmps10
    go_wp2_with fail
    go_ret
    exact ⟨⟨false, rfl, by simp⟩, 0, rfl⟩

set_option maxRecDepth 100000 in
set_option maxHeartbeats 1000000 in
theorem awake_true (w : World) : Calls Try.prog 7 #[] w fun e w' => e = .returned (.bool true) ∧ Below w.heap.size w w' := by
  let m : Nat → MarkV := fun i => if i = 0 then ⟨10, 2, 0⟩ else ⟨20, 1, 0⟩
  have n1 : ∀ a i, NextIs m 2 0 false false 30 5 a i → a = 20 ∧ i = 1 := fun a i h => h.one (.inl ⟨1, by omega, by omega, ⟨rfl, by decide, by decide⟩, (fun t h1 h2 hh => by obtain rfl : t = 0 := (by omega); exact absurd hh.1 (by decide)), rfl, rfl⟩)
  have n2 : ∀ a i, NextIs m 2 0 true false 30 5 a i → a = 10 ∧ i = 0 := fun a i h => h.one (.inl ⟨0, by omega, by omega, ⟨rfl, by decide, by decide⟩, (fun t h1 h2 => by omega), rfl, rfl⟩)
  have n3 : ∀ a i, NextIs m 2 0 true false 30 11 a i → a = 20 ∧ i = 1 := fun a i h => h.one (.inl ⟨1, by omega, by omega, ⟨rfl, by decide, by decide⟩, (fun t h1 h2 hh => by obtain rfl : t = 0 := (by omega); exact absurd hh.2.1 (by decide)), rfl, rfl⟩)
  have tab : ∀ W, Blk W w.heap.size 23 #[.int .i64 10, .int .i64 2, .int .i64 0, .int .i64 20, .int .i64 1, .int .i64 0] → TabAt W (some ⟨w.heap.size, 0, none⟩) 3 2 (fun i => mcell (m i)) := fun W hb i hi => by
    refine ⟨rfl, _, _, rfl, hb.lt, fun j hj => ?_⟩
    rw [hb.cell]
    match i, hi, j, hj with
    | 0, _, 0, _ => rfl
    | 0, _, 1, _ => rfl
    | 0, _, 2, _ => rfl
    | 1, _, 0, _ => rfl
    | 1, _, 1, _ => rfl
    | 1, _, 2, _ => rfl
  clear_value m
  have N1 := Lib.hid n1
  have N2 := Lib.hid n2
  have N3 := Lib.hid n3
  have TAB := Lib.hid tab
  clear n1 n2 n3 tab
  go_enter Try.func7, Try.ntmps7
  go_wp2_with fail
  have T1 := TAB.out _ (Blk.new w _ _)
  have bel0 := (Below.refl w.heap.size w).alloc (Nat.le_refl _) (.cells #[.int .i64 10, .int .i64 2, .int .i64 0, .int .i64 20, .int .i64 1, .int .i64 0] 23)
  refine (next_any _ 2 2 0 m 0 0 false false false 30 5 _ T1 (by omega) (by omega)).mono ?_
  rintro e wA ⟨a, i, rfl, hn, _, belA⟩
  obtain ⟨rfl, rfl⟩ := N1.out _ _ hn
  have T2 := T1.below belA
  have belA := bel0.trans (belA.mono bel0.size)
  clear hn T1
  go_wp2_with fail
  refine (next_any _ 2 2 0 m 0 0 false true false 30 5 _ T2 (by omega) (by omega)).mono ?_
  rintro e wB ⟨a, i, rfl, hn, _, belB⟩
  obtain ⟨rfl, rfl⟩ := N2.out _ _ hn
  have T3 := T2.below belB
  have belB := belA.trans (belB.mono belA.size)
  clear hn T2
  go_wp2_with fail
  refine (next_any _ 2 2 0 m 0 0 false true false 30 11 _ T3 (by omega) (by omega)).mono ?_
  rintro e wC ⟨a, i, rfl, hn, _, belC⟩
  obtain ⟨rfl, rfl⟩ := N3.out _ _ hn
  have belC := belB.trans (belC.mono belB.size)
  clear hn T3
  go_wp2_with fail
  go_ret
  exact ⟨rfl, belC⟩
end Go.Proofs.Ytbnamogpacncgaa
