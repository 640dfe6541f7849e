/-
  cnclaw07.step: an act on both stores. Stores of 1 to 9 levels; an act whose arguments lie in memory.
-/
import Derived.Test.YtdbhkpkndfhcoaaDoorRCopy07
namespace Go.Proofs.YtdbhkpkndfhcoaaDoor
open Go Go.RowKit
set_option linter.unusedVariables false

/-- What a store holds. -/
structure SD where
  n : Nat
  V : List Int
  C : Nat → Int
def kOf (d : ActD) : Int := varOf d.n d.near
def betV (v : Int) : Int := -1000000000000001 + v % (1000000000000001 - -1000000000000001 + 1)
def vOf (d : ActD) : Int := if d.near then betV d.v else d.v
def scanD (d : ActD) : Int × (Nat → Int) := scanA (argsOf d) (fun _ => false) (fun _ => 0)
/-- What a store holds behind an act. -/
def afterS (d : ActD) (x : SD) : SD :=
  if d.what = 1 then ⟨x.n, setVs x.n x.V (kOf d) (vOf d), setC x.C (kOf d) (vOf d)⟩
  else if d.what = 2 then ⟨x.n, x.V, hostC x.C (kOf d) (vOf d)⟩
  else if d.what = 3 then (if x.n = 9 then x else if (scanD d).1 = 0 then ⟨x.n + 1, x.V ++ (List.range 33).map (scanD d).2, x.C⟩ else x)
  else if d.what = 4 then (if x.n = 1 then x else ⟨x.n - 1, x.V.take ((x.n - 1) * 33), x.C⟩)
  else x
def pushE (d : ActD) (n : Nat) : Int := if n = 9 then 10 else (scanD d).1
def popE (n : Nat) : Int := if n = 1 then 13 else 0
def SAt (W : World) (base s g c : Nat) (x : SD) : Prop := StAt W base s g c x.n x.V x.C
def TAt (W : World) (base s g c : Nat) (x : SD) : Prop := RAt W base s g c x.n x.V x.C

/-- Only the blocks of two stores have turned. -/
structure Four (s g r q : Nat) (w w' : World) : Prop where
  os : w'.os = w.os
  tape : w'.tape = w.tape
  output : w'.output = w.output
  size : w.heap.size ≤ w'.heap.size
  block : ∀ b, b < w.heap.size → b ≠ s → b ≠ g → b ≠ r → b ≠ q → w'.heap[b]? = w.heap[b]?
section
variable {s g r q : Nat} {w w' w2 : World}
theorem Four.of_below (h : Below w.heap.size w w') : Four s g r q w w' := ⟨h.os, h.tape, h.output, h.size, fun b hb _ _ _ _ => h.block b hb⟩
theorem Four.of_left (h : Only s g w w') : Four s g r q w w' := ⟨h.os, h.tape, h.output, h.size, fun b hb h1 h2 _ _ => h.block b hb h1 h2⟩
theorem Four.of_right (h : Only r q w w') : Four s g r q w w' := ⟨h.os, h.tape, h.output, h.size, fun b hb _ _ h1 h2 => h.block b hb h1 h2⟩
theorem Four.trans (h : Four s g r q w w') (k : Four s g r q w' w2) : Four s g r q w w2 :=
  ⟨k.os.trans h.os, k.tape.trans h.tape, k.output.trans h.output, Nat.le_trans h.size k.size, fun b hb h1 h2 h3 h4 => (k.block b (Nat.lt_of_lt_of_le hb h.size) h1 h2 h3 h4).trans (h.block b hb h1 h2 h3 h4)⟩
theorem Four.trans' {s' g' r' q' : Nat} (h : Four s g r q w w') (k : Four s' g' r' q' w' w2) (e1 : s' = s ∨ w.heap.size ≤ s') (e2 : g' = g ∨ w.heap.size ≤ g') (e3 : r' = r ∨ w.heap.size ≤ r') (e4 : q' = q ∨ w.heap.size ≤ q') : Four s g r q w w2 :=
  ⟨k.os.trans h.os, k.tape.trans h.tape, k.output.trans h.output, Nat.le_trans h.size k.size, fun b hb h1 h2 h3 h4 =>
    (k.block b (Nat.lt_of_lt_of_le hb h.size) (by omega) (by omega) (by omega) (by omega)).trans (h.block b hb h1 h2 h3 h4)⟩
theorem Four.below {B : Nat} (h : Four s g r q w w') (hB : B ≤ w.heap.size) (h1 : B ≤ s) (h2 : B ≤ g) (h3 : B ≤ r) (h4 : B ≤ q) : Below B w w' :=
  ⟨h.os, h.tape, h.output, h.size, fun i hi => h.block i (by omega) (by omega) (by omega) (by omega) (by omega)⟩
theorem Four.drewN (h : Four s g r q w w') (n : Nat) : Four s g r q w (w'.drewN n) := ⟨h.os, h.tape, h.output, h.size, h.block⟩
end
theorem own_blk {w : World} {base e size n g cap : Nat} {xs : List Value} (h : w.ownsRow base e size (.slice (some ⟨g, 0, none⟩) n cap) n xs) : ∃ cs, Blk w g e cs := by
  rcases h.2 with ⟨e, _⟩ | ⟨g', cap', cur, e, _, hh, _⟩
  · cases e
  · injection e with e1
    injection e1 with e1
    injection e1 with e1
    subst e1
    exact ⟨cur, hh⟩
theorem blk_ne {w : World} {a b t u : Nat} {cs ds : Array Value} (h : Blk w a t cs) (k : Blk w b u ds) (hne : t ≠ u) : a ≠ b := by
  rintro rfl
  unfold Blk at h k
  rw [h] at k
  injection k with k
  injection k with _ k
  exact hne k
section
variable {W W' : World} {base base' s g r q c c2 : Nat} {x y : SD}
theorem SAt.apart (h : SAt W base s g c x) (k : TAt W base' r q c2 y) : s ≠ r ∧ s ≠ q ∧ g ≠ r ∧ g ≠ q := by
  obtain ⟨_, hg⟩ := own_blk h.2.1
  obtain ⟨_, kq⟩ := own_blk k.2.1
  exact ⟨blk_ne h.1 k.1 (by decide), blk_ne h.1 kq (by decide), blk_ne hg k.1 (by decide), blk_ne hg kq (by decide)⟩
theorem SAt.bounds (h : SAt W base s g c x) : base ≤ s ∧ s < W.heap.size ∧ base ≤ g ∧ g < W.heap.size ∧ s ≠ g := ⟨h.2.2.2.1, h.1.lt, h.baseg.1, h.baseg.2, h.2.2.1⟩
theorem TAt.bounds (h : TAt W base s g c x) : base ≤ s ∧ s < W.heap.size ∧ base ≤ g ∧ g < W.heap.size ∧ s ≠ g := ⟨h.2.2.2.1, h.1.lt, h.baseg.1, h.baseg.2, h.2.2.1⟩
theorem own_same {w w' : World} {base e size n g cap : Nat} {xs : List Value} (h : w.ownsRow base e size (.slice (some ⟨g, 0, none⟩) n cap) n xs) (hb : w'.heap[g]? = w.heap[g]?) : w'.ownsRow base e size (.slice (some ⟨g, 0, none⟩) n cap) n xs := by
  refine ⟨h.1, ?_⟩
  rcases h.2 with ⟨e, _⟩ | ⟨g', cap', cur, e, hg, hh, r⟩
  · cases e
  · have e0 := e
    injection e with e1
    injection e1 with e1
    injection e1 with e1
    subst e1
    exact .inr ⟨g, cap', cur, e0, hg, hb.trans hh, r⟩
theorem SAt.kept (h : SAt W base s g c x) (h1 : W'.heap[s]? = W.heap[s]?) (h2 : W'.heap[g]? = W.heap[g]?) : SAt W' base s g c x := ⟨h1.trans h.1, own_same h.2.1 h2, h.2.2⟩
theorem TAt.kept (h : TAt W base s g c x) (h1 : W'.heap[s]? = W.heap[s]?) (h2 : W'.heap[g]? = W.heap[g]?) : TAt W' base s g c x := ⟨h1.trans h.1, own_same h.2.1 h2, h.2.2⟩
theorem SAt.below (h : SAt W base s g c x) (hb : Below W.heap.size W W') : SAt W' base s g c x := StAt.below h hb
theorem TAt.below (h : TAt W base s g c x) (hb : Below W.heap.size W W') : TAt W' base s g c x := RAt.below h hb
theorem SAt.lower (h : SAt W base s g c x) (hb : base' ≤ base) : SAt W base' s g c x := ⟨h.1, own_base h.2.1 hb, h.2.2.1, Nat.le_trans hb h.2.2.2.1, h.2.2.2.2⟩
theorem TAt.lower (h : TAt W base s g c x) (hb : base' ≤ base) : TAt W base' s g c x := ⟨h.1, own_base h.2.1 hb, h.2.2.1, Nat.le_trans hb h.2.2.2.1, h.2.2.2.2⟩
/-- The reference's store is kept where only the other one turns. -/
theorem TAt.other (h : TAt W base' r q c2 y) (k : SAt W base s g c x) (ho : Only s g W W') : TAt W' base' r q c2 y := by
  obtain ⟨n1, n2, n3, n4⟩ := k.apart h
  exact h.kept (ho.block r h.bounds.2.1 n1.symm n3.symm) (ho.block q h.bounds.2.2.2.1 n2.symm n4.symm)
theorem SAt.other (h : SAt W' base s g c x) (k : TAt W' base' r q c2 y) {W2 : World} (ho : Only r q W' W2) : SAt W2 base s g c x := by
  obtain ⟨n1, n2, n3, n4⟩ := h.apart k
  exact h.kept (ho.block s h.bounds.2.1 n1 n2) (ho.block g h.bounds.2.2.2.1 n3 n4)
end
/-- What step leaves. -/
def StepPost (d : ActD) (x y : SD) (base s g r q : Nat) (w : World) (e : Ending) (w' : World) : Prop :=
  ∃ s' g' c' q' c2, e = .returned (.tuple #[.pointer (some ⟨s', 0, none⟩), .bool true]) ∧ SAt w' base s' g' c' (afterS d x) ∧ TAt w' base r q' c2 (afterS d y) ∧ (d.what ≠ 5 → s' = s) ∧
    Four s g r q w w' ∧ (s' = s ∨ w.heap.size ≤ s') ∧ (g' = g ∨ w.heap.size ≤ g') ∧ (q' = q ∨ w.heap.size ≤ q')
theorem vOf_true (W N V : Int) (addr : Option Addr) (A : List (Int × Int)) (cap : Nat) : vOf ⟨W, N, V, true, addr, A, cap⟩ = betV V := rfl
theorem vOf_false (W N V : Int) (addr : Option Addr) (A : List (Int × Int)) (cap : Nat) : vOf ⟨W, N, V, false, addr, A, cap⟩ = V := rfl
theorem act_range {W : World} {b : Nat} {t : TypeId} {cs : List Value} (h : Blk W b t cs.toArray) : W.rangeAt b 0 cs := by
  intro k x hx
  rw [Nat.zero_add]
  exact h.cell' k (by simpa using hx)
end Go.Proofs.YtdbhkpkndfhcoaaDoor
