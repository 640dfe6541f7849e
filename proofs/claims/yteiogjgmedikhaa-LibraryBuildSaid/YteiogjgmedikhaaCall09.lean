/-
  cncstage: what called and Flowing make of a tape, in plain words; the blocks are valid. No condition.
  cncstage.called. No condition.
  The heads of the loops of cncstage.Flowing. No condition.
-/
import Derived.Test.YteiogjgmedikhaaBlks09
import Derived.Test.YteiogjgmedikhaaRCopyP09
import Derived.Test.YteiogjgmedikhaaAddA09
import Derived.Test.YteiogjgmedikhaaRCopyB09
namespace Go.Proofs.Yteiogjgmedikhaa
open Go Go.RowKit
set_option linter.unusedVariables false

def constW (l n : Int) : WordL := ⟨l, leafE n⟩
def callF (T : Tp) (k : Nat) : List WordL × Nat :=
  if (nextF T (rangeF T k 0 3).2 2).1 = 0 then
    ([constW 77 98000000, constW 80 ((rangeF T k 0 3).1 * 1000000), constW 76 ((rangeF T (nextF T (rangeF T k 0 3).2 2).2 1 3).1 * 1000000)], (rangeF T (nextF T (rangeF T k 0 3).2 2).2 1 3).2)
  else ([constW 77 98000000, constW 80 ((rangeF T k 0 3).1 * 1000000)], (nextF T (rangeF T k 0 3).2 2).2)
def macroF (T : Tp) (k : Nat) : List WordL × Nat :=
  ([constW 71 65000000, constW 80 ((rangeF T k 1 2).1 * 1000000), constW 65 (numberF T (rangeF T k 1 2).2).1, constW 66 (numberF T (numberF T (rangeF T k 1 2).2).2).1], (numberF T (numberF T (rangeF T k 1 2).2).2).2)
def calledF (T : Tp) (k : Nat) (ws : List WordL) : List WordL × Nat :=
  if (nextF T k 6).1 = 0 then callF T (nextF T k 6).2
  else if (nextF T k 6).1 = 1 then macroF T (nextF T k 6).2
  else if (nextF T k 6).1 = 2 then ([constW 77 99000000], (nextF T k 6).2)
  else (ws, (nextF T k 6).2)
theorem constW_ok {l n : Int} (hl : 65 ≤ l ∧ l ≤ 90 ∧ l ≠ 78 ∧ l ≠ 79) (hn : 0 ≤ n ∧ n < 1000000000000000) : wordB (constW l n) = true := by
  unfold wordB constW
  rw [decide_eq_true hl, Bool.true_and]
  exact right_leaf 15 hn
theorem calledF_ok (T : Tp) (k : Nat) (ws : List WordL) (h : ws.length ≤ 24 ∧ ∀ x ∈ ws, wordB x = true) : (calledF T k ws).1.length ≤ 24 ∧ ∀ x ∈ (calledF T k ws).1, wordB x = true := by
  have r1 := rangeF_lo T (nextF T k 6).2 (lo := 0) (hi := 3) (by decide)
  have r2 := rangeF_hi T (nextF T k 6).2 (lo := 0) (hi := 3) (by decide)
  have r3 := rangeF_lo T (nextF T (rangeF T (nextF T k 6).2 0 3).2 2).2 (lo := 1) (hi := 3) (by decide)
  have r4 := rangeF_hi T (nextF T (rangeF T (nextF T k 6).2 0 3).2 2).2 (lo := 1) (hi := 3) (by decide)
  have r5 := rangeF_lo T (nextF T k 6).2 (lo := 1) (hi := 2) (by decide)
  have r6 := rangeF_hi T (nextF T k 6).2 (lo := 1) (hi := 2) (by decide)
  have n1 := numberF_bd T (rangeF T (nextF T k 6).2 1 2).2
  have n2 := numberF_bd T (numberF T (rangeF T (nextF T k 6).2 1 2).2).2
  unfold calledF
  split
  · unfold callF
    split
    · refine ⟨by simp, fun x hx => ?_⟩
      simp only [List.mem_cons, List.not_mem_nil, or_false] at hx
      rcases hx with rfl | rfl | rfl <;> exact constW_ok (by decide) (by omega)
    · refine ⟨by simp, fun x hx => ?_⟩
      simp only [List.mem_cons, List.not_mem_nil, or_false] at hx
      rcases hx with rfl | rfl <;> exact constW_ok (by decide) (by omega)
  split
  · unfold macroF
    refine ⟨by simp, fun x hx => ?_⟩
    simp only [List.mem_cons, List.not_mem_nil, or_false] at hx
    rcases hx with rfl | rfl | rfl | rfl <;> exact constW_ok (by decide) (by omega)
  split
  · refine ⟨by simp, fun x hx => ?_⟩
    simp only [List.mem_cons, List.not_mem_nil, or_false] at hx
    subst hx; exact constW_ok (by decide) (by decide)
  · exact h

/-- The blocks so far, the last label, how many loops are open, the position on the tape. -/
structure FS where
  l : List BlkL
  lab : Nat
  d : Nat
  k : Nat
def zeroB : BlkL := ⟨0, 0, false, [], zeroX, zeroX, 0⟩
def endB (n : Nat) : BlkL := ⟨5, 0, false, [], zeroX, zeroX, n⟩
def progBk (p : Nat) : BlkL := ⟨6, 0, false, [], zeroX, zeroX, p⟩
def setN (x : Ex) (n : Int) : Ex := .mk x.op n x.kids
/-- What a block b (with its label) adds, the tape being at k. -/
def turnF (T : Tp) (b : BlkL) (k : Nat) (s : FS) : FS :=
  if b.kind = 6 then ⟨s.l ++ [zeroB], s.lab, s.d, k⟩
  else if b.kind = 4 then if s.d = 3 then ⟨s.l, s.lab, s.d, k⟩ else ⟨s.l ++ [⟨b.kind, b.label, b.skip, b.words, b.left, b.x, (s.d + 1 : Nat)⟩], s.lab, s.d + 1, k⟩
  else if b.kind = 5 then if s.d = 0 then ⟨s.l, s.lab, s.d, k⟩ else ⟨s.l ++ [⟨b.kind, b.label, b.skip, b.words, b.left, b.x, s.d⟩], s.lab, s.d - 1, k⟩
  else if b.kind = 2 then ⟨s.l ++ [⟨b.kind, b.label, b.skip, b.words, b.left, setN b.x ((rangeF T k 1 (s.lab + 1 : Nat)).1 * 1000000), b.n⟩], s.lab, s.d, (rangeF T k 1 (s.lab + 1 : Nat)).2⟩
  else if b.kind = 3 then ⟨s.l ++ [⟨b.kind, b.label, b.skip, b.words, setN b.left ((rangeF T k 1 (s.lab + 1 : Nat)).1 * 1000000), b.x, b.n⟩], s.lab, s.d, (rangeF T k 1 (s.lab + 1 : Nat)).2⟩
  else if b.kind = 0 then ⟨s.l ++ [⟨b.kind, b.label, b.skip, (calledF T k b.words).1, b.left, b.x, b.n⟩], s.lab, s.d, (calledF T k b.words).2⟩
  else ⟨s.l ++ [b], s.lab, s.d, k⟩
def labB (b : BlkL) (lab : Int) : BlkL := ⟨b.kind, lab, b.skip, b.words, b.left, b.x, b.n⟩
def labOf (T : Tp) (k lab : Nat) : Int := if (nextF T k 2).1 = 0 then lab else 0
def roundF (T : Tp) (s : FS) : FS :=
  turnF T (labB (blockF T s.k).1 (labOf T (blockF T s.k).2 (s.lab + 1))) (nextF T (blockF T s.k).2 2).2 ⟨s.l, s.lab + 1, s.d, s.k⟩
def roundsF (T : Tp) : Nat → FS → FS
  | 0, s => s
  | n + 1, s => roundsF T n (roundF T s)
/-- The ends of the loops that are open. -/
def closeL : Nat → List BlkL
  | 0 => []
  | d + 1 => endB (d + 1) :: closeL d
def beginF (p : Nat) (l : List BlkL) : List BlkL := if p = 0 then l else l ++ [progBk p]
def progF (T : Tp) (p : Nat) (s : FS) : FS :=
  let s1 := roundsF T (rangeF T s.k 1 7).1.toNat ⟨beginF p s.l, s.lab, 0, (rangeF T s.k 1 7).2⟩
  ⟨s1.l ++ closeL s1.d, s1.lab, 0, s1.k⟩
def progsF (T : Tp) : Nat → FS
  | 0 => ⟨[], 0, 0, 0⟩
  | p + 1 => progF T p (progsF T p)
def flowF (T : Tp) : List BlkL := (progsF T 3).l
theorem roundsF_succ (T : Tp) : ∀ (n : Nat) (s : FS), roundsF T (n + 1) s = roundF T (roundsF T n s)
  | 0, s => rfl
  | n + 1, s => roundsF_succ T n (roundF T s)
end Go.Proofs.Yteiogjgmedikhaa

namespace Go.Proofs.Yteiogjgmedikhaa
open Go Go.RowKit
set_option linter.unusedVariables false


/-- Words without kids, the call's own, in a block's variable. -/
structure CSt (B g : Nat) (ac : Option Addr) (c : Nat) (T : Tp) (w : World) (base : Nat → Prop) (b : BlkL) (kl kx : Kid) (ws : List WordL) (v u : Value) (k : Nat) (W : World) : Prop where
  took : Took B g ac c T w k W
  box : Blk W w.heap.size 37 (rowC b v kl kx).toArray
  res : Blk W (w.heap.size + 1) 37 #[.int .i64 0, .int .i64 0, .bool false, .slice none 0 0, .int .i64 0, .int .i64 0, .slice none 0 0, .int .i64 0, .int .i64 0, .slice none 0 0, .int .i64 0]
  left : ExP (fun q => base q ∧ q < w.heap.size) W b.left kl.a kl.cap
  x : ExP (fun q => base q ∧ q < w.heap.size) W b.x kx.a kx.cap
  own : W.ownsRow (w.heap.size + 2) 48 4 u ws.length (flat (wordsC ws fun _ => ⟨none, 0⟩) ws.length)
section
variable {B g : Nat} {ac : Option Addr} {c : Nat} {T : Tp} {w : World} {base : Nat → Prop} {b : BlkL} {kl kx : Kid} {ws : List WordL} {v u : Value} {k k' : Nat} {W W' : World}
theorem CSt.on (h : CSt B g ac c T w base b kl kx ws v u k W) (gl : g < w.heap.size) (hb : ¬ base g) (t : Took B g ac c T W k' W') : CSt B g ac c T w base b kl kx ws v u k' W' :=
  ⟨h.took.trans t, t.blk h.box (by omega), t.blk h.res (by omega), h.left.took t (fun hq => hb hq.1), h.x.took t (fun hq => hb hq.1), own_grown h.own t.grown (by intro k e; injection e with e; omega)⟩
theorem CSt.grown (h : CSt B g ac c T w base b kl kx ws v u k W) (gl : g < w.heap.size) (hb : ¬ base g) (hg : W.grownBy W' none) : CSt B g ac c T w base b kl kx ws v u k W' :=
  h.on gl hb (Took.push (Took.start h.took.src) h.took.src.lt hg (by intro q e; cases e))
theorem CSt.put (h : CSt B g ac c T w base b kl kx ws v u k W) (gl : g < w.heap.size) (hb : ¬ base g) {ws' : List WordL} {v' : Value} (hown : W.ownsRow (w.heap.size + 2) 48 4 v' ws'.length (flat (wordsC ws' fun _ => ⟨none, 0⟩) ws'.length)) :
    CSt B g ac c T w base b kl kx ws' v' v' k (W.setCell ⟨w.heap.size, 3, none⟩ v') := by
  have gr : W.grownBy (W.setCell ⟨w.heap.size, 3, none⟩ v') (some w.heap.size) := grown_setCell (p := ⟨w.heap.size, 3, none⟩) (grown_refl _ _) (.inl rfl) _
  exact ⟨h.took.set (r := ⟨w.heap.size, 3, none⟩) (Nat.le_refl _) (by omega) _, h.box.put 3 _, h.res.far (p := ⟨w.heap.size, 3, none⟩) (by simp) _,
    h.left.set (r := ⟨w.heap.size, 3, none⟩) (by simp) _, h.x.set (r := ⟨w.heap.size, 3, none⟩) (by simp) _, own_grown hown gr (by intro k e; injection e with e; omega)⟩
theorem CSt.push (h : CSt B g ac c T w base b kl kx ws v u k W) (gl : g < w.heap.size) (hb : ¬ base g) {x : WordL} {gg cc : Nat} (hp : Pushed W (w.heap.size + 2) 48 4 u ws.length (wordsC ws fun _ => ⟨none, 0⟩) (wordC x ⟨none, 0⟩) gg cc W') :
    CSt B g ac c T w base b kl kx (ws ++ [x]) (.slice (some ⟨gg, 0, none⟩) (ws.length + 1) cc) (.slice (some ⟨gg, 0, none⟩) (ws.length + 1) cc) k (W'.setCell ⟨w.heap.size, 3, none⟩ (.slice (some ⟨gg, 0, none⟩) (ws.length + 1) cc)) := by
  have hrow : ∀ q, u.ownBlock = some q → w.heap.size + 2 ≤ q ∧ q < W.heap.size := fun q e => h.own.lt q e
  have hne : ∀ q, q < w.heap.size + 2 → some q ≠ u.ownBlock := fun q hq e => by have := hrow _ e.symm; omega
  have gr : W'.grownBy (W'.setCell ⟨w.heap.size, 3, none⟩ (.slice (some ⟨gg, 0, none⟩) (ws.length + 1) cc)) (some w.heap.size) := grown_setCell (p := ⟨w.heap.size, 3, none⟩) (grown_refl _ _) (.inl rfl) _
  refine ⟨(h.took.push (by omega) hp.grown fun q e => by have := hrow q e; omega).set (r := ⟨w.heap.size, 3, none⟩) (Nat.le_refl _) (by omega) _, (h.box.grown hp.grown (hne _ (by omega))).put 3 _,
    (h.res.grown hp.grown (hne _ (by omega))).far (p := ⟨w.heap.size, 3, none⟩) (by simp) _, (h.left.grownP hp.grown fun q e hq => hne q (by omega) e.symm).set (r := ⟨w.heap.size, 3, none⟩) (by simp) _,
    (h.x.grownP hp.grown fun q e hq => hne q (by omega) e.symm).set (r := ⟨w.heap.size, 3, none⟩) (by simp) _, ?_⟩
  have h1 := own_grown hp.own gr (by intro k e; injection e with e; omega)
  have e1 : flat (fun i => if i = ws.length then wordC x ⟨none, 0⟩ else wordsC ws (fun _ => ⟨none, 0⟩) i) (ws.length + 1) = flat (wordsC (ws ++ [x]) fun _ => ⟨none, 0⟩) (ws ++ [x]).length := by
    rw [List.length_append, List.length_singleton]
    refine flat_congr fun i hi => ?_
    by_cases e : i = ws.length
    · subst e
      rw [if_pos rfl, wordsC_at (x := x) (by simp)]
    · rw [if_neg e]
      unfold wordsC
      rw [List.getElem?_append_left (by omega)]
  rw [e1] at h1
  simpa using h1
theorem CSt.blk (h : CSt B g ac c T w base b kl kx ws v v k W) (hb : ∀ q, w.heap.size ≤ q → base q) (hw : ∀ x ∈ ws, x.x.kids = []) :
    ∃ a cap, v = .slice a ws.length cap ∧ BlkP (fun q => base q ∧ q ≠ w.heap.size + 1) W ⟨b.kind, b.label, b.skip, ws, b.left, b.x, b.n⟩ ⟨a, cap, fun _ => ⟨none, 0⟩, kl, kx⟩ := by
  obtain ⟨a, cap, e, hrow, hcap⟩ := RowAt.of_own h.own (fun i hi => wordsC_len hi)
  refine ⟨a, cap, e, ⟨hrow.imp fun q hq _ => ⟨hb q (by omega), by omega⟩, fun i x hx => ?_, hcap⟩, h.left.imp fun q hq _ => ⟨hq.1, by omega⟩, h.x.imp fun q hq _ => ⟨hq.1, by omega⟩⟩
  have := hw x (List.mem_of_getElem? hx)
  obtain ⟨l, ⟨op, n, ks⟩⟩ := x
  dsimp only [Ex.kids] at this
  subst this
  exact ExP.leaf _ _ _ _
end
theorem kids_nil : ∀ x ∈ ([] : List WordL), x.x.kids = [] := by simp
theorem kids_cons {l n : Int} {ws : List WordL} (h : ∀ x ∈ ws, x.x.kids = []) : ∀ x ∈ constW l n :: ws, x.x.kids = [] := by
  intro x hx
  rcases List.mem_cons.1 hx with rfl | hx
  · rfl
  · exact h x hx
/-- What called returns. -/
def CalledPost (B g : Nat) (ac : Option Addr) (c : Nat) (T : Tp) (w : World) (base : Nat → Prop) (b : BlkL) (x : List WordL × Nat) (e : Ending) (w' : World) : Prop :=
  ∃ pl, e = .returned (.agg (blkC ⟨b.kind, b.label, b.skip, x.1, b.left, b.x, b.n⟩ pl).toArray) ∧ BlkP base w' ⟨b.kind, b.label, b.skip, x.1, b.left, b.x, b.n⟩ pl ∧ Took B g ac c T w x.2 w'
set_option maxRecDepth 100000 in
set_option maxHeartbeats 1000000 in
theorem called_any (w : World) (B g : Nat) (ac : Option Addr) (c : Nat) (T : Tp) (k : Nat) (hs : Src w B g ac c T k) (base : Nat → Prop) (b : BlkL) (pl : Place) (hb : ¬ base g) (hn : ∀ q, w.heap.size ≤ q → base q) (h : BlkP base w b pl) :
    Calls Try.prog 37 #[.pointer (some ⟨g, 0, none⟩), .agg (blkC b pl).toArray] w (CalledPost B g ac c T w base b (calledF T k b.words)) := by
  obtain ⟨kd, lab, sk, ws, left, x, n⟩ := b
  obtain ⟨aw, cw, kk, kl, kx⟩ := pl
  show Calls Try.prog 37 #[.pointer (some ⟨g, 0, none⟩), .agg #[.int .i64 kd, .int .i64 lab, .bool sk, .slice aw ws.length cw, .int .i64 left.op, .int .i64 left.n, .slice kl.a left.kids.length kl.cap, .int .i64 x.op, .int .i64 x.n, .slice kx.a x.kids.length kx.cap, .int .i64 n]] w _
  have gl : g < w.heap.size := hs.lt
  have hlim : ∀ {y : Ex} {a : Option Addr} {cap : Nat}, ExP base w y a cap → ExP (fun q => base q ∧ q < w.heap.size) ((w.alloc (.cells #[.int .i64 kd, .int .i64 lab, .bool sk, .slice aw ws.length cw, .int .i64 left.op, .int .i64 left.n, .slice kl.a left.kids.length kl.cap, .int .i64 x.op, .int .i64 x.n, .slice kx.a x.kids.length kx.cap, .int .i64 n] 37)).alloc (.cells #[.int .i64 0, .int .i64 0, .bool false, .slice none 0 0, .int .i64 0, .int .i64 0, .slice none 0 0, .int .i64 0, .int .i64 0, .slice none 0 0, .int .i64 0] 37)) y a cap := fun h' => ((h'.imp fun q hq hl => ⟨hq, hl⟩).alloc _).alloc _
  have hS0 : CSt B g ac c T w base ⟨kd, lab, sk, ws, left, x, n⟩ kl kx [] (.slice aw ws.length cw) (.slice none 0 0) k ((w.alloc (.cells #[.int .i64 kd, .int .i64 lab, .bool sk, .slice aw ws.length cw, .int .i64 left.op, .int .i64 left.n, .slice kl.a left.kids.length kl.cap, .int .i64 x.op, .int .i64 x.n, .slice kx.a x.kids.length kx.cap, .int .i64 n] 37)).alloc (.cells #[.int .i64 0, .int .i64 0, .bool false, .slice none 0 0, .int .i64 0, .int .i64 0, .slice none 0 0, .int .i64 0, .int .i64 0, .slice none 0 0, .int .i64 0] 37)) :=
    ⟨((Took.start hs).alloc _).alloc _, (Blk.new w 37 #[.int .i64 kd, .int .i64 lab, .bool sk, .slice aw ws.length cw, .int .i64 left.op, .int .i64 left.n, .slice kl.a left.kids.length kl.cap, .int .i64 x.op, .int .i64 x.n, .slice kx.a x.kids.length kx.cap, .int .i64 n]).alloc _, Blk.new' _ _ _ (by simp), hlim h.left, hlim h.x, World.ownsRow_nil _ _ _ _⟩
  have KN := Lib.hid (next_any ((w.alloc (.cells #[.int .i64 kd, .int .i64 lab, .bool sk, .slice aw ws.length cw, .int .i64 left.op, .int .i64 left.n, .slice kl.a left.kids.length kl.cap, .int .i64 x.op, .int .i64 x.n, .slice kx.a x.kids.length kx.cap, .int .i64 n] 37)).alloc (.cells #[.int .i64 0, .int .i64 0, .bool false, .slice none 0 0, .int .i64 0, .int .i64 0, .slice none 0 0, .int .i64 0, .int .i64 0, .slice none 0 0, .int .i64 0] 37)) B g ac c T k 6 hS0.took.src (by decide) (by decide))
  have S0 := Lib.hid hS0
  have HB := Lib.hid (((h.imp (q := fun q => base q ∧ q ≠ w.heap.size + 1) fun q hq hl => ⟨hq, by omega⟩).keep fun q _ hl => Below.heap_alloc w _ q hl).keep (W' := ((w.alloc (.cells #[.int .i64 kd, .int .i64 lab, .bool sk, .slice aw ws.length cw, .int .i64 left.op, .int .i64 left.n, .slice kl.a left.kids.length kl.cap, .int .i64 x.op, .int .i64 x.n, .slice kx.a x.kids.length kx.cap, .int .i64 n] 37)).alloc (.cells #[.int .i64 0, .int .i64 0, .bool false, .slice none 0 0, .int .i64 0, .int .i64 0, .slice none 0 0, .int .i64 0, .int .i64 0, .slice none 0 0, .int .i64 0] 37))) fun q _ hl => Below.heap_alloc _ _ q hl)
  have hF := calledF.eq_1 T k ws
  have l1 := nextF_lo T k (m := 6) (by decide)
  have l2 := nextF_hi T k (m := 6) (by decide)
  generalize nextF T k 6 = s at *
  obtain ⟨v, k1⟩ := s
  dsimp only at *
  clear hs h hS0
  have HF := Lib.hid hF
  clear hF
  go_enter Try.func37, Try.ntmps37
  go_wp2_with fail
  refine KN.out.mono ?_
  rintro e w1 ⟨rfl, t1⟩
  have S1 := Lib.hid (S0.out.on gl hb t1)
  have HB1 := Lib.hid (HB.out.keep fun q hq hl => t1.grown.block q hl (fun e => by injection e with e; exact hb (e ▸ hq.1)))
  clear t1 KN S0 HB
  by_cases e0 : v = 0
  · subst e0
    have HR0 := Lib.hid (HF.out.trans (if_pos rfl))
    have hC := callF.eq_1 T k1
    have KR := Lib.hid (fun W hW => range_any W B g ac c T k1 0 3 hW (by decide) (by decide) (by decide))
    have r1 := rangeF_lo T k1 (lo := 0) (hi := 3) (by decide)
    have r2 := rangeF_hi T k1 (lo := 0) (hi := 3) (by decide)
    generalize rangeF T k1 0 3 = s at *
    obtain ⟨rv, k2⟩ := s
    dsimp only at *
    have KQ := Lib.hid (fun W hW => next_any W B g ac c T k2 2 hW (by decide) (by decide))
    generalize nextF T k2 2 = s at *
    obtain ⟨qv, k3⟩ := s
    dsimp only at *
    have KL := Lib.hid (fun W hW => range_any W B g ac c T k3 1 3 hW (by decide) (by decide) (by decide))
    have r3 := rangeF_lo T k3 (lo := 1) (hi := 3) (by decide)
    have r4 := rangeF_hi T k3 (lo := 1) (hi := 3) (by decide)
    generalize rangeF T k3 1 3 = s at *
    obtain ⟨lv, k4⟩ := s
    dsimp only at *
    have HC := Lib.hid hC
    clear hC HF l1 l2
    have wr1 : IntKind.i64.wrap (rv * 1000000) = rv * 1000000 := by rw [IntKind.wrap_i64]; omega
    have wr2 : IntKind.i64.wrap (lv * 1000000) = lv * 1000000 := by rw [IntKind.wrap_i64]; omega
    go_wp2_with fail
    refine (word_any 77 (98000000) _ (by omega)).mono ?_
    rintro e w2 ⟨rfl, g2⟩
    have S2 := Lib.hid (S1.out.grown gl hb g2)
    clear g2
    go_wp2_with fail
    refine (KR.out _ S2.out.took.src).mono ?_
    rintro e w3 ⟨rfl, t2⟩
    have S3 := Lib.hid (S2.out.on gl hb t2)
    clear t2
    go_wp2_with fail
    refine (word_any 80 (rv * 1000000) _ (by omega)).mono ?_
    rintro e w4 ⟨rfl, g2⟩
    have S4 := Lib.hid (S3.out.grown gl hb g2)
    clear g2
    have c3 := S4.out.box.cell 3
    have z3 := S4.out.box.frozen 3
    have lt3 := S4.out.box.lt
    obtain ⟨i0, hi, hz0, hz1, hz2⟩ := info_parts infoWord
    go_wp2_with ((with_reducible refine go_buildSlice 32 48 2 _ #[.int .i64 77, .int .i64 0, .int .i64 (98000000), .slice none 0 0, .int .i64 80, .int .i64 0, .int .i64 (rv * 1000000), .slice none 0 0] i0 _ Try.underlying32 hi hz0 (by rw [hz1]; decide) (by rw [hz1]; decide) (by rw [hz1]; with_unfolding_all kernel_rfl) ?_))
    clear c3 z3 lt3
    have hst : ∃ v, CSt B g ac c T w base ⟨kd, lab, sk, ws, left, x, n⟩ kl kx [constW 77 98000000, constW 80 (rv * 1000000)] v v k2 ((w4.setCell ⟨w.heap.size, 3, none⟩ (.slice (some ⟨w4.heap.size, 0, none⟩) 2 2)).alloc (.cells #[.int .i64 77, .int .i64 0, .int .i64 (98000000), .slice none 0 0, .int .i64 80, .int .i64 0, .int .i64 (rv * 1000000), .slice none 0 0] 48)) := by
      have h := (S4.out.grown gl hb (grown_alloc (grown_refl _ _) (.cells #[.int .i64 77, .int .i64 0, .int .i64 (98000000), .slice none 0 0, .int .i64 80, .int .i64 0, .int .i64 (rv * 1000000), .slice none 0 0] 48))).put gl hb (ws' := [constW 77 98000000, constW 80 (rv * 1000000)]) (v' := .slice (some ⟨w4.heap.size, 0, none⟩) 2 2) (World.ownsRow_lit _ _ _ (by have := S4.out.res.lt; omega) (by decide) rfl)
      rw [World.setCell_alloc_past _ _ _ _ S4.out.box.lt] at h
      exact ⟨_, h⟩
    refine calls_told (fun W => ∃ v, CSt B g ac c T w base ⟨kd, lab, sk, ws, left, x, n⟩ kl kx [constW 77 98000000, constW 80 (rv * 1000000)] v v k2 W) hst ?_
    rintro W5 ⟨vv, h5⟩
    have S5 := Lib.hid h5
    clear h5 hst S4 S3 S2
    refine (KQ.out _ S5.out.took.src).mono ?_
    rintro e w6 ⟨rfl, t6⟩
    have S6 := Lib.hid (S5.out.on gl hb t6)
    clear t6 S5 KQ
    by_cases hq : qv = 0
    · subst hq
      have HR := Lib.hid (HR0.out.trans (HC.out.trans (if_pos rfl)))
      clear HC HR0
      go_wp2_with fail
      refine region_L (fun W => W.cell? ⟨w.heap.size, 3, none⟩ = some vv) [9] (by kernel_rfl) ?_
      have hS0 : w6.drew.cell? ⟨w.heap.size, 3, none⟩ = some vv := S6.out.box.drew.cell' 3 rfl
      refine take_P 0 (v := .pointer (some ⟨w.heap.size, 3, none⟩)) rfl (by kernel_rfl) (by kernel_rfl) (by kernel_rfl) (fun _ _ _ h => h) rfl (fun W' => by go_simp) ?_
      refine take_L 1 (v := vv) rfl (by kernel_rfl) (by kernel_rfl) (by kernel_rfl) (by kernel_rfl) (fun _ _ _ h => h) rfl (fun W' hW' => by go_simp) hS0 ?_
      refine take_P 2 (v := .pointer (some ⟨g, 0, none⟩)) rfl (by kernel_rfl) (by kernel_rfl) (by kernel_rfl) (fun _ _ _ h => h) rfl (fun W' => by go_simp) ?_
      refine one_L 3 (by kernel_rfl) rfl rfl fun K3 hK3 => ?_
      have HK3 := Lib.hid hK3
      clear hK3
      go_simp
      have S6' := Lib.hid (S6.out.on gl hb (Took.start S6.out.took.src).drew)
      refine (KL.out _ S6'.out.took.src).mono ?_
      rintro e w7 ⟨rfl, t7⟩
      have S7 := Lib.hid (S6'.out.on gl hb t7)
      refine HK3.out _ _ (fun _ _ => S7.out.box.cell' 3 rfl) ?_
      refine take_P 4 (v := .int .i64 (lv * 1000000)) rfl (by kernel_rfl) (by kernel_rfl) (by kernel_rfl) (fun _ _ _ h => h) rfl (fun W' => by go_simp) ?_
      refine one_L 5 (by kernel_rfl) rfl rfl fun K5 hK5 => ?_
      have HK5 := Lib.hid hK5
      clear hK5
      go_simp
      refine (word_any 76 (lv * 1000000) _ (by omega)).mono ?_
      rintro e w8 ⟨rfl, g8⟩
      have S8 := Lib.hid (S7.out.grown gl hb g8)
      refine HK5.out _ _ (fun _ _ => S8.out.box.cell' 3 rfl) ?_
      refine one_L 6 (by kernel_rfl) rfl rfl fun K6 hK6 => ?_
      have HK6 := Lib.hid hK6
      clear hK6
      refine wp_word1 (.tmp 24) (.int .i64 76) (.int .i64 0) (.int .i64 (lv * 1000000)) (.slice none 0 0) rfl (by with_unfolding_all rfl) ?_
      have S9 := Lib.hid (S8.out.grown gl hb (grown_alloc (grown_refl _ _) (.cells #[.int .i64 76, .int .i64 0, .int .i64 (lv * 1000000), .slice none 0 0] 48)))
      refine HK6.out _ _ (fun _ _ => S9.out.box.cell' 3 rfl) ?_
      refine one_L 7 (by kernel_rfl) rfl rfl fun K7 hK7 => ?_
      have HK7 := Lib.hid hK7
      clear hK7
      refine wp_push (.tmp 20) (.tmp 25) 32 rfl (w.heap.size + 2) 48 (Value.agg #[.int .i64 0, .int .i64 0, .int .i64 0, .slice none 0 0]) 4 48 Try.underlying32 infoWord (by kernel_rfl) (by decide) (by decide) vv 2 (wordsC [constW 77 98000000, constW 80 (rv * 1000000)] fun _ => ⟨none, 0⟩) (by with_unfolding_all rfl)
        S9.out.own w8.heap.size (wordC (constW 76 (lv * 1000000)) ⟨none, 0⟩) (by with_unfolding_all rfl) (Blk.new w8 48 _) rfl (by intro u hu; simp [wordC] at hu; rcases hu with rfl | rfl | rfl | rfl <;> rfl) (by omega) (by have := S9.out.res.lt; omega) fun gg cc w10 hp => ?_
      have hst := S9.out.push gl hb hp
      have hgp : some w.heap.size ≠ vv.ownBlock := fun e => by have := S9.out.own.lt _ e.symm; omega
      have b10 := S9.out.box.grown hp.grown hgp
      refine HK7.out _ _ (fun _ _ => b10.cell' 3 rfl) ?_
      have z3 := b10.frozen 3
      have c3 := b10.cell 3
      have SX := Lib.hid hst
      refine take_P 8 (v := .pointer (some ⟨w.heap.size, 3, none⟩)) rfl (by kernel_rfl) (by kernel_rfl) (by kernel_rfl) (fun _ _ _ h => h) rfl (fun W' => by go_simp) ?_
      refine one_L 9 (by kernel_rfl) rfl rfl fun K9 hK9 => ?_
      have HK9 := Lib.hid hK9
      clear hK9
      go_simp
      refine HK9.out _ _ (fun h => absurd h (by decide)) ?_
      refine done_L (by kernel_rfl) ?_ _
      clear z3 c3 b10 hgp hp hst HK3 HK5 HK6 HK7 HK9 hS0 t7 g8
      go_simp
      go_upto_region 10 with fail
      refine on_told (fun W => ∃ v, CSt B g ac c T w base ⟨kd, lab, sk, ws, left, x, n⟩ kl kx [constW 77 98000000, constW 80 (rv * 1000000), constW 76 (lv * 1000000)] v v k4 W) ⟨_, SX.out⟩ ?_
      have hst := trivial
      rintro W ⟨v, h⟩
      have SW := Lib.hid h
      clear h hst
      obtain ⟨aw', cw', ev, hbp⟩ := SW.out.blk hn (kids_cons (kids_cons (kids_cons kids_nil)))
      subst ev
      have HBP := Lib.hid hbp
      clear hbp
      have bx : W.heap[w.heap.size]? = some (.cells #[.int .i64 kd, .int .i64 lab, .bool sk, .slice aw' 3 cw', .int .i64 left.op, .int .i64 left.n, .slice kl.a left.kids.length kl.cap, .int .i64 x.op, .int .i64 x.n, .slice kx.a x.kids.length kx.cap, .int .i64 n] 37 (0, 0)) := SW.out.box
      have br : W.heap[w.heap.size + 1]? = some (.cells #[.int .i64 0, .int .i64 0, .bool false, .slice none 0 0, .int .i64 0, .int .i64 0, .slice none 0 0, .int .i64 0, .int .i64 0, .slice none 0 0, .int .i64 0] 37 (0, 0)) := SW.out.res
      go_wp2_with (first
        | ((with_reducible refine go_load_row 37 (.tmp 3) w.heap.size 37 #[.int .i64 kd, .int .i64 lab, .bool sk, .slice aw' 3 cw', .int .i64 left.op, .int .i64 left.n, .slice kl.a left.kids.length kl.cap, .int .i64 x.op, .int .i64 x.n, .slice kx.a x.kids.length kx.cap, .int .i64 n] _ rfl bx Try.underlying37 rfl (by kernel_rfl) ?_))
        | ((with_reducible refine go_store_row 37 (.tmp 4) (.tmp 48) (w.heap.size + 1) #[.int .i64 kd, .int .i64 lab, .bool sk, .slice aw' 3 cw', .int .i64 left.op, .int .i64 left.n, .slice kl.a left.kids.length kl.cap, .int .i64 x.op, .int .i64 x.n, .slice kx.a x.kids.length kx.cap, .int .i64 n] 37 #[.int .i64 0, .int .i64 0, .bool false, .slice none 0 0, .int .i64 0, .int .i64 0, .slice none 0 0, .int .i64 0, .int .i64 0, .slice none 0 0, .int .i64 0] (by with_unfolding_all rfl) (by with_unfolding_all rfl) br (by with_unfolding_all kernel_rfl) (by with_unfolding_all rfl) (by with_unfolding_all rfl) ?_))
        )
      refine bodyPost_ret (results_cell_row rfl _ _ (w.heap.size + 1) 37 #[.int .i64 kd, .int .i64 lab, .bool sk, .slice aw' 3 cw', .int .i64 left.op, .int .i64 left.n, .slice kl.a left.kids.length kl.cap, .int .i64 x.op, .int .i64 x.n, .slice kx.a x.kids.length kx.cap, .int .i64 n] (0, 0) _ rfl (show Blk _ _ _ _ from SW.out.res.setRow _) Try.underlying37 rfl (by kernel_rfl)) rfl ?_
      rw [show calledF T k ws = _ from HR.out]
      exact ⟨⟨_, _, fun _ => ⟨none, 0⟩, kl, kx⟩, rfl, (HBP.out.keep fun q hq _ => setRow_other _ _ _ _ hq.2).imp fun q hq _ => hq.1, SW.out.took.setRow (by simp) gl _⟩
    · have HR := Lib.hid (HR0.out.trans (HC.out.trans (if_neg hq)))
      have f0 : (qv == 0) = false := by simpa using hq
      clear HC HR0
      go_upto_region 10 with fail
      refine on_told (fun W => ∃ v, CSt B g ac c T w base ⟨kd, lab, sk, ws, left, x, n⟩ kl kx [constW 77 98000000, constW 80 (rv * 1000000)] v v k3 W) ⟨vv, S6.out⟩ ?_
      have hst := trivial
      rintro W ⟨v, h⟩
      have SW := Lib.hid h
      clear h hst
      obtain ⟨aw', cw', ev, hbp⟩ := SW.out.blk hn (kids_cons (kids_cons kids_nil))
      subst ev
      have HBP := Lib.hid hbp
      clear hbp
      have bx : W.heap[w.heap.size]? = some (.cells #[.int .i64 kd, .int .i64 lab, .bool sk, .slice aw' 2 cw', .int .i64 left.op, .int .i64 left.n, .slice kl.a left.kids.length kl.cap, .int .i64 x.op, .int .i64 x.n, .slice kx.a x.kids.length kx.cap, .int .i64 n] 37 (0, 0)) := SW.out.box
      have br : W.heap[w.heap.size + 1]? = some (.cells #[.int .i64 0, .int .i64 0, .bool false, .slice none 0 0, .int .i64 0, .int .i64 0, .slice none 0 0, .int .i64 0, .int .i64 0, .slice none 0 0, .int .i64 0] 37 (0, 0)) := SW.out.res
      go_wp2_with (first
        | ((with_reducible refine go_load_row 37 (.tmp 3) w.heap.size 37 #[.int .i64 kd, .int .i64 lab, .bool sk, .slice aw' 2 cw', .int .i64 left.op, .int .i64 left.n, .slice kl.a left.kids.length kl.cap, .int .i64 x.op, .int .i64 x.n, .slice kx.a x.kids.length kx.cap, .int .i64 n] _ rfl bx Try.underlying37 rfl (by kernel_rfl) ?_))
        | ((with_reducible refine go_store_row 37 (.tmp 4) (.tmp 48) (w.heap.size + 1) #[.int .i64 kd, .int .i64 lab, .bool sk, .slice aw' 2 cw', .int .i64 left.op, .int .i64 left.n, .slice kl.a left.kids.length kl.cap, .int .i64 x.op, .int .i64 x.n, .slice kx.a x.kids.length kx.cap, .int .i64 n] 37 #[.int .i64 0, .int .i64 0, .bool false, .slice none 0 0, .int .i64 0, .int .i64 0, .slice none 0 0, .int .i64 0, .int .i64 0, .slice none 0 0, .int .i64 0] (by with_unfolding_all rfl) (by with_unfolding_all rfl) br (by with_unfolding_all kernel_rfl) (by with_unfolding_all rfl) (by with_unfolding_all rfl) ?_))
        )
      refine bodyPost_ret (results_cell_row rfl _ _ (w.heap.size + 1) 37 #[.int .i64 kd, .int .i64 lab, .bool sk, .slice aw' 2 cw', .int .i64 left.op, .int .i64 left.n, .slice kl.a left.kids.length kl.cap, .int .i64 x.op, .int .i64 x.n, .slice kx.a x.kids.length kx.cap, .int .i64 n] (0, 0) _ rfl (show Blk _ _ _ _ from SW.out.res.setRow _) Try.underlying37 rfl (by kernel_rfl)) rfl ?_
      rw [show calledF T k ws = _ from HR.out]
      exact ⟨⟨_, _, fun _ => ⟨none, 0⟩, kl, kx⟩, rfl, (HBP.out.keep fun q hq _ => setRow_other _ _ _ _ hq.2).imp fun q hq _ => hq.1, SW.out.took.setRow (by simp) gl _⟩
  by_cases e1 : v = 1
  · subst e1
    have HR0 := Lib.hid ((HF.out.trans (if_neg (by decide))).trans (if_pos rfl))
    have hC := macroF.eq_1 T k1
    have KR := Lib.hid (fun W hW => range_any W B g ac c T k1 1 2 hW (by decide) (by decide) (by decide))
    have r1 := rangeF_lo T k1 (lo := 1) (hi := 2) (by decide)
    have r2 := rangeF_hi T k1 (lo := 1) (hi := 2) (by decide)
    generalize rangeF T k1 1 2 = s at *
    obtain ⟨rv, k2⟩ := s
    dsimp only at *
    have KA := Lib.hid (fun W hW => number_any W B g ac c T k2 hW)
    have n1 := numberF_bd T k2
    generalize numberF T k2 = s at *
    obtain ⟨av, k3⟩ := s
    dsimp only at *
    have KB := Lib.hid (fun W hW => number_any W B g ac c T k3 hW)
    have n2 := numberF_bd T k3
    generalize numberF T k3 = s at *
    obtain ⟨bv, k4⟩ := s
    dsimp only at *
    have HR := Lib.hid (HR0.out.trans hC)
    clear hC HF HR0 l1 l2
    have wr1 : IntKind.i64.wrap (rv * 1000000) = rv * 1000000 := by rw [IntKind.wrap_i64]; omega
    go_wp2_with fail
    refine (word_any 71 (65000000) _ (by omega)).mono ?_
    rintro e w2 ⟨rfl, g2⟩
    have S2 := Lib.hid (S1.out.grown gl hb g2)
    clear g2
    go_wp2_with fail
    refine (KR.out _ S2.out.took.src).mono ?_
    rintro e w3 ⟨rfl, t2⟩
    have S3 := Lib.hid (S2.out.on gl hb t2)
    clear t2
    go_wp2_with fail
    refine (word_any 80 (rv * 1000000) _ (by omega)).mono ?_
    rintro e w4 ⟨rfl, g2⟩
    have S4 := Lib.hid (S3.out.grown gl hb g2)
    clear g2
    go_wp2_with fail
    refine (KA.out _ S4.out.took.src).mono ?_
    rintro e w5 ⟨rfl, t2⟩
    have S5 := Lib.hid (S4.out.on gl hb t2)
    clear t2
    go_wp2_with fail
    refine (word_any 65 (av) _ (by omega)).mono ?_
    rintro e w6 ⟨rfl, g2⟩
    have S6 := Lib.hid (S5.out.grown gl hb g2)
    clear g2
    go_wp2_with fail
    refine (KB.out _ S6.out.took.src).mono ?_
    rintro e w7 ⟨rfl, t2⟩
    have S7 := Lib.hid (S6.out.on gl hb t2)
    clear t2
    go_wp2_with fail
    refine (word_any 66 (bv) _ (by omega)).mono ?_
    rintro e w8 ⟨rfl, g2⟩
    have S8 := Lib.hid (S7.out.grown gl hb g2)
    clear g2
    have c3 := S8.out.box.cell 3
    have z3 := S8.out.box.frozen 3
    have lt3 := S8.out.box.lt
    obtain ⟨i0, hi, hz0, hz1, hz2⟩ := info_parts infoWord
    go_upto_region 10 with ((with_reducible refine go_buildSlice 32 48 4 _ #[.int .i64 71, .int .i64 0, .int .i64 (65000000), .slice none 0 0, .int .i64 80, .int .i64 0, .int .i64 (rv * 1000000), .slice none 0 0, .int .i64 65, .int .i64 0, .int .i64 (av), .slice none 0 0, .int .i64 66, .int .i64 0, .int .i64 (bv), .slice none 0 0] i0 _ Try.underlying32 hi hz0 (by rw [hz1]; decide) (by rw [hz1]; decide) (by rw [hz1]; with_unfolding_all kernel_rfl) ?_))
    clear c3 z3 lt3
    have hst : ∃ v, CSt B g ac c T w base ⟨kd, lab, sk, ws, left, x, n⟩ kl kx [constW 71 65000000, constW 80 (rv * 1000000), constW 65 av, constW 66 bv] v v k4 ((w8.setCell ⟨w.heap.size, 3, none⟩ (.slice (some ⟨w8.heap.size, 0, none⟩) 4 4)).alloc (.cells #[.int .i64 71, .int .i64 0, .int .i64 (65000000), .slice none 0 0, .int .i64 80, .int .i64 0, .int .i64 (rv * 1000000), .slice none 0 0, .int .i64 65, .int .i64 0, .int .i64 (av), .slice none 0 0, .int .i64 66, .int .i64 0, .int .i64 (bv), .slice none 0 0] 48)) := by
      have h := (S8.out.grown gl hb (grown_alloc (grown_refl _ _) (.cells #[.int .i64 71, .int .i64 0, .int .i64 (65000000), .slice none 0 0, .int .i64 80, .int .i64 0, .int .i64 (rv * 1000000), .slice none 0 0, .int .i64 65, .int .i64 0, .int .i64 (av), .slice none 0 0, .int .i64 66, .int .i64 0, .int .i64 (bv), .slice none 0 0] 48))).put gl hb (ws' := [constW 71 65000000, constW 80 (rv * 1000000), constW 65 av, constW 66 bv]) (v' := .slice (some ⟨w8.heap.size, 0, none⟩) 4 4) (World.ownsRow_lit _ _ _ (by have := S8.out.res.lt; omega) (by decide) rfl)
      rw [World.setCell_alloc_past _ _ _ _ S8.out.box.lt] at h
      exact ⟨_, h⟩
    refine on_told (fun W => ∃ v, CSt B g ac c T w base ⟨kd, lab, sk, ws, left, x, n⟩ kl kx [constW 71 65000000, constW 80 (rv * 1000000), constW 65 av, constW 66 bv] v v k4 W) hst ?_
    rintro W ⟨v, h⟩
    have SW := Lib.hid h
    clear h hst
    obtain ⟨aw', cw', ev, hbp⟩ := SW.out.blk hn (kids_cons (kids_cons (kids_cons (kids_cons kids_nil))))
    subst ev
    have HBP := Lib.hid hbp
    clear hbp
    have bx : W.heap[w.heap.size]? = some (.cells #[.int .i64 kd, .int .i64 lab, .bool sk, .slice aw' 4 cw', .int .i64 left.op, .int .i64 left.n, .slice kl.a left.kids.length kl.cap, .int .i64 x.op, .int .i64 x.n, .slice kx.a x.kids.length kx.cap, .int .i64 n] 37 (0, 0)) := SW.out.box
    have br : W.heap[w.heap.size + 1]? = some (.cells #[.int .i64 0, .int .i64 0, .bool false, .slice none 0 0, .int .i64 0, .int .i64 0, .slice none 0 0, .int .i64 0, .int .i64 0, .slice none 0 0, .int .i64 0] 37 (0, 0)) := SW.out.res
    go_wp2_with (first
      | ((with_reducible refine go_load_row 37 (.tmp 3) w.heap.size 37 #[.int .i64 kd, .int .i64 lab, .bool sk, .slice aw' 4 cw', .int .i64 left.op, .int .i64 left.n, .slice kl.a left.kids.length kl.cap, .int .i64 x.op, .int .i64 x.n, .slice kx.a x.kids.length kx.cap, .int .i64 n] _ rfl bx Try.underlying37 rfl (by kernel_rfl) ?_))
      | ((with_reducible refine go_store_row 37 (.tmp 4) (.tmp 48) (w.heap.size + 1) #[.int .i64 kd, .int .i64 lab, .bool sk, .slice aw' 4 cw', .int .i64 left.op, .int .i64 left.n, .slice kl.a left.kids.length kl.cap, .int .i64 x.op, .int .i64 x.n, .slice kx.a x.kids.length kx.cap, .int .i64 n] 37 #[.int .i64 0, .int .i64 0, .bool false, .slice none 0 0, .int .i64 0, .int .i64 0, .slice none 0 0, .int .i64 0, .int .i64 0, .slice none 0 0, .int .i64 0] (by with_unfolding_all rfl) (by with_unfolding_all rfl) br (by with_unfolding_all kernel_rfl) (by with_unfolding_all rfl) (by with_unfolding_all rfl) ?_))
      )
    refine bodyPost_ret (results_cell_row rfl _ _ (w.heap.size + 1) 37 #[.int .i64 kd, .int .i64 lab, .bool sk, .slice aw' 4 cw', .int .i64 left.op, .int .i64 left.n, .slice kl.a left.kids.length kl.cap, .int .i64 x.op, .int .i64 x.n, .slice kx.a x.kids.length kx.cap, .int .i64 n] (0, 0) _ rfl (show Blk _ _ _ _ from SW.out.res.setRow _) Try.underlying37 rfl (by kernel_rfl)) rfl ?_
    rw [show calledF T k ws = _ from HR.out]
    exact ⟨⟨_, _, fun _ => ⟨none, 0⟩, kl, kx⟩, rfl, (HBP.out.keep fun q hq _ => setRow_other _ _ _ _ hq.2).imp fun q hq _ => hq.1, SW.out.took.setRow (by simp) gl _⟩
  by_cases e2 : v = 2
  · subst e2
    have HR := Lib.hid (((HF.out.trans (if_neg (by decide))).trans (if_neg (by decide))).trans (if_pos rfl))
    go_wp2_with fail
    refine (word_any 77 (99000000) _ (by omega)).mono ?_
    rintro e w2 ⟨rfl, g2⟩
    have S2 := Lib.hid (S1.out.grown gl hb g2)
    clear g2
    have c3 := S2.out.box.cell 3
    have z3 := S2.out.box.frozen 3
    have lt3 := S2.out.box.lt
    go_upto_region 10 with ((with_reducible refine wpList_word1 rfl (.tmp 45) (.int .i64 77) (.int .i64 0) (.int .i64 99000000) (.slice none 0 0) rfl rfl ?_))
    clear c3 z3 lt3
    have hst : ∃ v, CSt B g ac c T w base ⟨kd, lab, sk, ws, left, x, n⟩ kl kx [constW 77 99000000] v v k1 ((w2.setCell ⟨w.heap.size, 3, none⟩ (.slice (some ⟨w2.heap.size, 0, none⟩) 1 1)).alloc (.cells #[.int .i64 77, .int .i64 0, .int .i64 (99000000), .slice none 0 0] 48)) := by
      have h := (S2.out.grown gl hb (grown_alloc (grown_refl _ _) (.cells #[.int .i64 77, .int .i64 0, .int .i64 (99000000), .slice none 0 0] 48))).put gl hb (ws' := [constW 77 99000000]) (v' := .slice (some ⟨w2.heap.size, 0, none⟩) 1 1) (World.ownsRow_lit _ _ _ (by have := S2.out.res.lt; omega) (by decide) rfl)
      rw [World.setCell_alloc_past _ _ _ _ S2.out.box.lt] at h
      exact ⟨_, h⟩
    refine on_told (fun W => ∃ v, CSt B g ac c T w base ⟨kd, lab, sk, ws, left, x, n⟩ kl kx [constW 77 99000000] v v k1 W) hst ?_
    rintro W ⟨v, h⟩
    have SW := Lib.hid h
    clear h hst
    obtain ⟨aw', cw', ev, hbp⟩ := SW.out.blk hn (kids_cons kids_nil)
    subst ev
    have HBP := Lib.hid hbp
    clear hbp
    have bx : W.heap[w.heap.size]? = some (.cells #[.int .i64 kd, .int .i64 lab, .bool sk, .slice aw' 1 cw', .int .i64 left.op, .int .i64 left.n, .slice kl.a left.kids.length kl.cap, .int .i64 x.op, .int .i64 x.n, .slice kx.a x.kids.length kx.cap, .int .i64 n] 37 (0, 0)) := SW.out.box
    have br : W.heap[w.heap.size + 1]? = some (.cells #[.int .i64 0, .int .i64 0, .bool false, .slice none 0 0, .int .i64 0, .int .i64 0, .slice none 0 0, .int .i64 0, .int .i64 0, .slice none 0 0, .int .i64 0] 37 (0, 0)) := SW.out.res
    go_wp2_with (first
      | ((with_reducible refine go_load_row 37 (.tmp 3) w.heap.size 37 #[.int .i64 kd, .int .i64 lab, .bool sk, .slice aw' 1 cw', .int .i64 left.op, .int .i64 left.n, .slice kl.a left.kids.length kl.cap, .int .i64 x.op, .int .i64 x.n, .slice kx.a x.kids.length kx.cap, .int .i64 n] _ rfl bx Try.underlying37 rfl (by kernel_rfl) ?_))
      | ((with_reducible refine go_store_row 37 (.tmp 4) (.tmp 48) (w.heap.size + 1) #[.int .i64 kd, .int .i64 lab, .bool sk, .slice aw' 1 cw', .int .i64 left.op, .int .i64 left.n, .slice kl.a left.kids.length kl.cap, .int .i64 x.op, .int .i64 x.n, .slice kx.a x.kids.length kx.cap, .int .i64 n] 37 #[.int .i64 0, .int .i64 0, .bool false, .slice none 0 0, .int .i64 0, .int .i64 0, .slice none 0 0, .int .i64 0, .int .i64 0, .slice none 0 0, .int .i64 0] (by with_unfolding_all rfl) (by with_unfolding_all rfl) br (by with_unfolding_all kernel_rfl) (by with_unfolding_all rfl) (by with_unfolding_all rfl) ?_))
      )
    refine bodyPost_ret (results_cell_row rfl _ _ (w.heap.size + 1) 37 #[.int .i64 kd, .int .i64 lab, .bool sk, .slice aw' 1 cw', .int .i64 left.op, .int .i64 left.n, .slice kl.a left.kids.length kl.cap, .int .i64 x.op, .int .i64 x.n, .slice kx.a x.kids.length kx.cap, .int .i64 n] (0, 0) _ rfl (show Blk _ _ _ _ from SW.out.res.setRow _) Try.underlying37 rfl (by kernel_rfl)) rfl ?_
    rw [show calledF T k ws = _ from HR.out]
    exact ⟨⟨_, _, fun _ => ⟨none, 0⟩, kl, kx⟩, rfl, (HBP.out.keep fun q hq _ => setRow_other _ _ _ _ hq.2).imp fun q hq _ => hq.1, SW.out.took.setRow (by simp) gl _⟩
  have HR := Lib.hid (((HF.out.trans (if_neg e0)).trans (if_neg e1)).trans (if_neg e2))
  have f0 : (v == 0) = false := by simpa using e0
  have f1 : (v == 1) = false := by simpa using e1
  have f2 : (v == 2) = false := by simpa using e2
  have bx : w1.heap[w.heap.size]? = some (.cells #[.int .i64 kd, .int .i64 lab, .bool sk, .slice aw ws.length cw, .int .i64 left.op, .int .i64 left.n, .slice kl.a left.kids.length kl.cap, .int .i64 x.op, .int .i64 x.n, .slice kx.a x.kids.length kx.cap, .int .i64 n] 37 (0, 0)) := S1.out.box
  have br : w1.heap[w.heap.size + 1]? = some (.cells #[.int .i64 0, .int .i64 0, .bool false, .slice none 0 0, .int .i64 0, .int .i64 0, .slice none 0 0, .int .i64 0, .int .i64 0, .slice none 0 0, .int .i64 0] 37 (0, 0)) := S1.out.res
  go_wp2_with (first
    | ((with_reducible refine go_load_row 37 (.tmp 3) w.heap.size 37 #[.int .i64 kd, .int .i64 lab, .bool sk, .slice aw ws.length cw, .int .i64 left.op, .int .i64 left.n, .slice kl.a left.kids.length kl.cap, .int .i64 x.op, .int .i64 x.n, .slice kx.a x.kids.length kx.cap, .int .i64 n] _ rfl bx Try.underlying37 rfl (by kernel_rfl) ?_))
    | ((with_reducible refine go_store_row 37 (.tmp 4) (.tmp 48) (w.heap.size + 1) #[.int .i64 kd, .int .i64 lab, .bool sk, .slice aw ws.length cw, .int .i64 left.op, .int .i64 left.n, .slice kl.a left.kids.length kl.cap, .int .i64 x.op, .int .i64 x.n, .slice kx.a x.kids.length kx.cap, .int .i64 n] 37 #[.int .i64 0, .int .i64 0, .bool false, .slice none 0 0, .int .i64 0, .int .i64 0, .slice none 0 0, .int .i64 0, .int .i64 0, .slice none 0 0, .int .i64 0] (by with_unfolding_all rfl) (by with_unfolding_all rfl) br (by with_unfolding_all kernel_rfl) (by with_unfolding_all rfl) (by with_unfolding_all rfl) ?_))
    )
  refine bodyPost_ret (results_cell_row rfl _ _ (w.heap.size + 1) 37 #[.int .i64 kd, .int .i64 lab, .bool sk, .slice aw ws.length cw, .int .i64 left.op, .int .i64 left.n, .slice kl.a left.kids.length kl.cap, .int .i64 x.op, .int .i64 x.n, .slice kx.a x.kids.length kx.cap, .int .i64 n] (0, 0) _ rfl (show Blk _ _ _ _ from S1.out.res.setRow _) Try.underlying37 rfl (by kernel_rfl)) rfl ?_
  rw [show calledF T k ws = _ from HR.out]
  exact ⟨⟨aw, cw, kk, kl, kx⟩, rfl, (HB1.out.keep fun q hq _ => setRow_other _ _ _ _ hq.2).imp fun q hq _ => hq.1, S1.out.took.setRow (by simp) gl _⟩
end Go.Proofs.Yteiogjgmedikhaa

namespace Go.Proofs.Yteiogjgmedikhaa
open Go Go.RowKit
set_option linter.unusedVariables false

/-! ### Plain -/
theorem turnF_bd (T : Tp) (b : BlkL) (k : Nat) (s : FS) (hd : s.d ≤ 3) : (turnF T b k s).lab = s.lab ∧ (turnF T b k s).l.length ≤ s.l.length + 1 ∧ (turnF T b k s).d ≤ 3 := by
  unfold turnF
  repeat' split
  all_goals (refine ⟨rfl, ?_, ?_⟩ <;> simp <;> omega)
theorem roundsF_bd (T : Tp) (s : FS) (hd : s.d ≤ 3) : ∀ n : Nat, (roundsF T n s).lab = s.lab + n ∧ (roundsF T n s).l.length ≤ s.l.length + n ∧ (roundsF T n s).d ≤ 3
  | 0 => ⟨rfl, Nat.le_refl _, hd⟩
  | n + 1 => by
    obtain ⟨h1, h2, h3⟩ := roundsF_bd T s hd n
    rw [roundsF_succ]
    have := turnF_bd T (labB (blockF T (roundsF T n s).k).1 (labOf T (blockF T (roundsF T n s).k).2 ((roundsF T n s).lab + 1))) (nextF T (blockF T (roundsF T n s).k).2 2).2 ⟨(roundsF T n s).l, (roundsF T n s).lab + 1, (roundsF T n s).d, (roundsF T n s).k⟩ h3
    unfold roundF
    simp only at this
    exact ⟨by omega, by omega, this.2.2⟩
theorem closeL_len : ∀ d : Nat, (closeL d).length = d
  | 0 => rfl
  | d + 1 => by rw [closeL, List.length_cons, closeL_len d]
theorem beginF_len (p : Nat) (l : List BlkL) : (beginF p l).length ≤ l.length + 1 := by
  unfold beginF; split <;> simp
theorem range7 (T : Tp) (k : Nat) : 1 ≤ (rangeF T k 1 7).1 ∧ (rangeF T k 1 7).1 ≤ 7 := ⟨rangeF_lo T k (by decide), rangeF_hi T k (by decide)⟩
theorem progsF_bd (T : Tp) : ∀ p : Nat, (progsF T p).lab ≤ 7 * p ∧ (progsF T p).l.length ≤ 11 * p ∧ (progsF T p).d = 0
  | 0 => ⟨Nat.le_refl _, Nat.le_refl _, rfl⟩
  | p + 1 => by
    obtain ⟨h1, h2, h3⟩ := progsF_bd T p
    have r := range7 T (progsF T p).k
    obtain ⟨b1, b2, b3⟩ := roundsF_bd T ⟨beginF p (progsF T p).l, (progsF T p).lab, 0, (rangeF T (progsF T p).k 1 7).2⟩ (by simp) (rangeF T (progsF T p).k 1 7).1.toNat
    have := beginF_len p (progsF T p).l
    show (progF T p (progsF T p)).lab ≤ _ ∧ (progF T p (progsF T p)).l.length ≤ _ ∧ _
    unfold progF
    simp only [List.length_append, closeL_len] at *
    exact ⟨by omega, by omega, rfl⟩
def opL (d : Nat) : List Int := (List.range d).map fun i => ((i + 1 : Nat) : Int)
theorem opL_len (d : Nat) : (opL d).length = d := by simp [opL]
theorem opL_at {d i : Nat} (h : i < d) : (opL d).getD i 0 = ((i + 1 : Nat) : Int) := by
  simp [opL, List.getD, h]
theorem opL_succ (d : Nat) : opL (d + 1) = opL d ++ [((d + 1 : Nat) : Int)] := by simp [opL, List.range_succ]

theorem ExP.setN {p : Nat → Prop} {W : World} {x : Ex} {a : Option Addr} {cap : Nat} (h : ExP p W x a cap) (n : Int) : ExP p W (setN x n) a cap := by
  cases h with
  | mk k h1 h2 h3 h4 => exact .mk k h1 h2 h3 h4

/-! ### A block in a variable -/
structure RB (B g : Nat) (ac : Option Addr) (c : Nat) (T : Tp) (W0 : World) (r : Nat) (b : BlkL) (p : Place) (k : Nat) (W : World) : Prop where
  took : Took B g ac c T W0 k W
  bb : Blk W r 37 (blkC b p).toArray
  blk : BlkP (fun q => W0.heap.size ≤ q ∧ q ≠ r) W b p
section
variable {B g : Nat} {ac : Option Addr} {c : Nat} {T : Tp} {W0 : World} {r : Nat} {b b' : BlkL} {p : Place} {k k' : Nat} {W W' : World}
theorem RB.on (h : RB B g ac c T W0 r b p k W) (gl : g < W0.heap.size) (hr : W0.heap.size ≤ r) (t : Took B g ac c T W k' W') : RB B g ac c T W0 r b p k' W' :=
  ⟨h.took.trans t, t.blk h.bb (by omega), h.blk.keep fun q hq hl => t.grown.block q hl (fun e => by injection e with e; omega)⟩
theorem RB.put (h : RB B g ac c T W0 r b p k W) (gl : g < W0.heap.size) (hr : W0.heap.size ≤ r) {j : Nat} {v : Value} (hc : (blkC b' p).toArray = (blkC b p).toArray.setIfInBounds j v) (hb : ∀ W, BlkP (fun q => W0.heap.size ≤ q ∧ q ≠ r) W b p → BlkP (fun q => W0.heap.size ≤ q ∧ q ≠ r) W b' p) :
    RB B g ac c T W0 r b' p k (W.setCell ⟨r, j, none⟩ v) :=
  ⟨h.took.set hr gl v, hc ▸ h.bb.put j v, hb _ (h.blk.keep fun q hq _ => Below.heap_setCell W ⟨r, j, none⟩ v q hq.2)⟩
end
theorem RB.row {B g : Nat} {ac : Option Addr} {c : Nat} {T : Tp} {W0 : World} {r : Nat} {b b' : BlkL} {p p' : Place} {k : Nat} {W : World} (h : RB B g ac c T W0 r b p k W) (gl : g < W0.heap.size) (hr : W0.heap.size ≤ r)
    (hb : BlkP (fun q => W0.heap.size ≤ q ∧ q ≠ r) W b' p') : RB B g ac c T W0 r b' p' k (W.setRow r (blkC b' p').toArray) :=
  ⟨h.took.setRow hr gl _, h.bb.setRow _, hb.keep fun q hq _ => setRow_other _ _ _ _ hq.2⟩
/-! ### The list so far -/
structure FlowAt (B g : Nat) (ac : Option Addr) (c : Nat) (T : Tp) (w : World) (l : List BlkL) (d k : Nat) (vl vo : Value) (pl : Nat → Place) (W : World) : Prop where
  took : Took B g ac c T w k W
  own : W.ownsRow w.heap.size 37 11 vl l.length (flat (blksC l pl) l.length)
  op : W.ownsRow w.heap.size 3 1 vo d (flat (intC (opL d)) d)
  new : ∀ (i : Nat) (b : BlkL), l[i]? = some b → BlkP (fun q => w.heap.size ≤ q ∧ vl.ownBlock ≠ some q ∧ vo.ownBlock ≠ some q) W b (pl i)
section
variable {B g : Nat} {ac : Option Addr} {c : Nat} {T : Tp} {w : World} {l : List BlkL} {d k k' : Nat} {vl vo : Value} {pl : Nat → Place} {W W' : World}
theorem FlowAt.start (hs : Src w B g ac c T k) (pl : Nat → Place) : FlowAt B g ac c T w [] 0 k (.slice none 0 0) (.slice none 0 0) pl w :=
  ⟨Took.start hs, World.ownsRow_nil _ _ _ _, World.ownsRow_nil _ _ _ _, fun i b h => by simp at h⟩
theorem FlowAt.on (h : FlowAt B g ac c T w l d k vl vo pl W) (gl : g < w.heap.size) (t : Took B g ac c T W k' W') : FlowAt B g ac c T w l d k' vl vo pl W' :=
  ⟨h.took.trans t, own_grown h.own t.grown (by intro k e; injection e with e; omega), own_grown h.op t.grown (by intro k e; injection e with e; omega),
    fun i b hb => (h.new i b hb).keep fun q hq hl => t.grown.block q hl (fun e => by injection e with e; omega)⟩
theorem FlowAt.grown (h : FlowAt B g ac c T w l d k vl vo pl W) (gl : g < w.heap.size) (hg : W.grownBy W' none) : FlowAt B g ac c T w l d k vl vo pl W' :=
  h.on gl (Took.push (Took.start h.took.src) h.took.src.lt hg (by intro q e; cases e))
theorem FlowAt.noOp (h : FlowAt B g ac c T w l d k vl vo pl W) : FlowAt B g ac c T w l 0 k vl (.slice none 0 0) pl W :=
  ⟨h.took, h.own, World.ownsRow_nil _ _ _ _, fun i b hb => (h.new i b hb).imp fun q hq _ => ⟨hq.1, hq.2.1, by simp [Value.ownBlock]⟩⟩
theorem FlowAt.pushB (h : FlowAt B g ac c T w l d k vl vo pl W) (gl : g < w.heap.size) {b : BlkL} {p : Place} (hb : BlkP (fun q => w.heap.size ≤ q ∧ vl.ownBlock ≠ some q ∧ vo.ownBlock ≠ some q) W b p)
    {gg cc : Nat} (hp : Pushed W w.heap.size 37 11 vl l.length (blksC l pl) (blkC b p) gg cc W') :
    FlowAt B g ac c T w (l ++ [b]) d k (.slice (some ⟨gg, 0, none⟩) (l.length + 1) cc) vo (fun j => if j = l.length then p else pl j) W' := by
  have hrow : ∀ q, vl.ownBlock = some q → w.heap.size ≤ q ∧ q < W.heap.size := fun q e => h.own.lt q e
  have hfin : ∀ (y : BlkL) py, BlkP (fun q => w.heap.size ≤ q ∧ vl.ownBlock ≠ some q ∧ vo.ownBlock ≠ some q) W y py → BlkP (fun q => w.heap.size ≤ q ∧ Value.ownBlock (.slice (some ⟨gg, 0, none⟩) (l.length + 1) cc) ≠ some q ∧ vo.ownBlock ≠ some q) W' y py := by
    intro y py h1
    have h2 : BlkP (fun q => (w.heap.size ≤ q ∧ vl.ownBlock ≠ some q ∧ vo.ownBlock ≠ some q) ∧ q < W.heap.size) W y py := h1.imp fun q hq hl => ⟨hq, hl⟩
    refine (h2.keep fun q hq hl => hp.grown.block q hl fun e => hq.1.2.1 e.symm).imp fun q hq _ => ⟨hq.1.1, ?_, hq.1.2.2⟩
    simp only [Value.ownBlock, ne_eq, Option.some.injEq]
    intro e
    rcases hp.at' with e2 | e2
    · rw [e] at e2; exact hq.1.2.1 e2
    · omega
  refine ⟨h.took.push gl hp.grown fun q e => (hrow q e).1, ?_, h.op.kept hp.grown (by
    cases hv : vo.ownBlock with
    | none => exact .inl rfl
    | some q => exact .inr (fun e => own_ne_own h.own h.op (by decide) q e.symm hv)), fun j y hy => ?_⟩
  · have h1 := hp.own
    have e1 : flat (fun i => if i = l.length then blkC b p else blksC l pl i) (l.length + 1) = flat (blksC (l ++ [b]) fun j => if j = l.length then p else pl j) (l ++ [b]).length := by
      rw [List.length_append, List.length_singleton]
      refine flat_congr fun i hi => ?_
      by_cases e : i = l.length
      · subst e
        rw [if_pos rfl, blksC_at (b := b) (by simp), if_pos rfl]
      · rw [if_neg e]
        unfold blksC
        rw [List.getElem?_append_left (by omega)]
        simp only [e, if_false]
    rw [e1] at h1
    simpa using h1
  · by_cases e : j = l.length
    · subst e
      rw [List.getElem?_concat_length] at hy
      injection hy with hy
      subst hy
      simp only [if_true]
      exact hfin _ _ hb
    · simp only [e, if_false]
      have hj : j < l.length := by
        have := (List.getElem?_eq_some_iff.1 hy).1
        simp at this; omega
      rw [List.getElem?_append_left hj] at hy
      exact hfin _ _ (h.new j y hy)
theorem FlowAt.pushO (h : FlowAt B g ac c T w l d k vl vo pl W) (gl : g < w.heap.size) {gg cc : Nat} (hp : Pushed W w.heap.size 3 1 vo d (intC (opL d)) [.int .i64 ((d + 1 : Nat) : Int)] gg cc W') :
    FlowAt B g ac c T w l (d + 1) k vl (.slice (some ⟨gg, 0, none⟩) (d + 1) cc) pl W' := by
  have hrow : ∀ q, vo.ownBlock = some q → w.heap.size ≤ q ∧ q < W.heap.size := fun q e => h.op.lt q e
  refine ⟨h.took.push gl hp.grown fun q e => (hrow q e).1, h.own.kept hp.grown (by
    cases hv : vl.ownBlock with
    | none => exact .inl rfl
    | some q => exact .inr (fun e => own_ne_own h.own h.op (by decide) q hv e.symm)), ?_, fun j y hy => ?_⟩
  · have h1 := hp.own
    have e1 := intC_snoc (opL d) ((d + 1 : Nat) : Int)
    rw [opL_len, ← opL_succ] at e1
    rw [e1] at h1
    exact h1
  · have h2 : BlkP (fun q => (w.heap.size ≤ q ∧ vl.ownBlock ≠ some q ∧ vo.ownBlock ≠ some q) ∧ q < W.heap.size) W y (pl j) := (h.new j y hy).imp fun q hq hl => ⟨hq, hl⟩
    refine (h2.keep fun q hq hl => hp.grown.block q hl fun e => hq.1.2.2 e.symm).imp fun q hq _ => ⟨hq.1.1, hq.1.2.1, ?_⟩
    simp only [Value.ownBlock, ne_eq, Option.some.injEq]
    intro e
    rcases hp.at' with e2 | e2
    · rw [e] at e2; exact hq.1.2.2 e2
    · omega
theorem FlowAt.popO {go co : Nat} (h : FlowAt B g ac c T w l (d + 1) k vl (.slice (some ⟨go, 0, none⟩) (d + 1) co) pl W) : FlowAt B g ac c T w l d k vl (.slice (some ⟨go, 0, none⟩) d co) pl W := by
  have h1 := own_take h.op (m := d) (by omega)
  have e1 : (flat (intC (opL (d + 1))) (d + 1)).take (d * 1) = flat (intC (opL d)) d := by
    rw [flat_succ, List.take_append_of_le_length (by rw [flat_len (C := 1) (fun i _ => intC_len _ i)]; exact Nat.le_refl _), List.take_of_length_le (by rw [flat_len (C := 1) (fun i _ => intC_len _ i)]; exact Nat.le_refl _)]
    refine flat_congr fun i hi => ?_
    unfold intC
    rw [opL_at (by omega), opL_at hi]
  rw [e1] at h1
  exact ⟨h.took, h.own, h1, h.new⟩
/-- What stands on top of the open loops. -/
theorem FlowAt.top {go co : Nat} (h : FlowAt B g ac c T w l (d + 1) k vl (.slice (some ⟨go, 0, none⟩) (d + 1) co) pl W) : W.cell? ⟨go, d, none⟩ = some (.int .i64 ((d + 1 : Nat) : Int)) ∧ d + 1 ≤ co := by
  refine ⟨?_, ?_⟩
  · rw [h.op.cellAt d (by omega)]
    have := flat_at (f := intC (opL (d + 1))) (C := 1) (n := d + 1) (fun i _ => intC_len _ i) (i := d) (j := 0) (by omega) (by omega)
    simp only [Nat.mul_one, Nat.add_zero] at this
    rw [this]
    unfold intC
    rw [opL_at (by omega)]
    rfl
  · rcases h.op.2 with ⟨e, _⟩ | ⟨g', cap', cur, e, _, _, hn, _⟩
    · injection e with e; cases e
    · injection e with _ _ e2; omega
theorem FlowAt.someO (h : FlowAt B g ac c T w l (d + 1) k vl vo pl W) : ∃ go co, vo = .slice (some ⟨go, 0, none⟩) (d + 1) co := by
  obtain ⟨go, co, e, _⟩ := own_some h.op (by omega)
  exact ⟨go, co, e⟩
theorem FlowAt.formO (h : FlowAt B g ac c T w l d k vl vo pl W) : ∃ ao co, vo = .slice ao d co := by
  rcases h.op.2 with ⟨e, h0⟩ | ⟨g', cap', cur, e, _⟩
  · subst h0; exact ⟨none, 0, e⟩
  · exact ⟨_, cap', e⟩
theorem FlowAt.done (h : FlowAt B g ac c T w l d k vl vo pl W) : ∃ a cap, vl = .slice a l.length cap ∧ BlksP (fun q => w.heap.size ≤ q) W l a cap pl := by
  obtain ⟨a, cap, e, hrow, hcap⟩ := RowAt.of_own h.own (fun i hi => blksC_len hi)
  exact ⟨a, cap, e, hrow, fun i b hb => (h.new i b hb).imp fun q hq _ => hq.1, hcap⟩
/-- The list so far and a block in a variable. -/
structure FB (B g : Nat) (ac : Option Addr) (c : Nat) (T : Tp) (w : World) (l : List BlkL) (d k : Nat) (vl vo : Value) (pl : Nat → Place) (r : Nat) (b : BlkL) (p : Place) (W : World) : Prop where
  flow : FlowAt B g ac c T w l d k vl vo pl W
  ne : vl.ownBlock ≠ some r
  bb : Blk W r 37 (blkC b p).toArray
  blk : BlkP (fun q => w.heap.size ≤ q ∧ vl.ownBlock ≠ some q ∧ vo.ownBlock ≠ some q ∧ q ≠ r) W b p
variable {W0 : World} {b b' : BlkL} {p : Place} {r : Nat}
theorem FlowAt.with (h : FlowAt B g ac c T w l d k vl vo pl W0) (gl : g < w.heap.size) (hr : W0.heap.size ≤ r) (R : RB B g ac c T W0 r b p k' W) : FB B g ac c T w l d k' vl vo pl r b p W :=
  ⟨h.on gl R.took, fun e => by have := h.own.lt r e; omega, R.bb, R.blk.imp fun q hq _ => ⟨Nat.le_trans h.took.size hq.1, fun e => by have := h.own.lt q e; omega, fun e => by have := h.op.lt q e; omega, hq.2⟩⟩
theorem FB.on (h : FB B g ac c T w l d k vl vo pl r b p W) (gl : g < w.heap.size) (hr : w.heap.size ≤ r) (t : Took B g ac c T W k' W') : FB B g ac c T w l d k' vl vo pl r b p W' :=
  ⟨h.flow.on gl t, h.ne, t.blk h.bb (by omega), h.blk.keep fun q hq hl => t.grown.block q hl (fun e => by injection e with e; omega)⟩
theorem FB.grown (h : FB B g ac c T w l d k vl vo pl r b p W) (gl : g < w.heap.size) (hr : w.heap.size ≤ r) (hg : W.grownBy W' none) : FB B g ac c T w l d k vl vo pl r b p W' :=
  h.on gl hr (Took.push (Took.start h.flow.took.src) h.flow.took.src.lt hg (by intro q e; cases e))
theorem FB.pushO (h : FB B g ac c T w l d k vl vo pl r b p W) (gl : g < w.heap.size) {gg cc : Nat} (hp : Pushed W w.heap.size 3 1 vo d (intC (opL d)) [.int .i64 ((d + 1 : Nat) : Int)] gg cc W') :
    FB B g ac c T w l (d + 1) k vl (.slice (some ⟨gg, 0, none⟩) (d + 1) cc) pl r b p W' := by
  refine ⟨h.flow.pushO gl hp, h.ne, h.bb.grown hp.grown (own_ne h.flow.op h.bb (by decide)), ?_⟩
  have h2 : BlkP (fun q => (w.heap.size ≤ q ∧ vl.ownBlock ≠ some q ∧ vo.ownBlock ≠ some q ∧ q ≠ r) ∧ q < W.heap.size) W b p := h.blk.imp fun q hq hl => ⟨hq, hl⟩
  refine (h2.keep fun q hq hl => hp.grown.block q hl fun e => hq.1.2.2.1 e.symm).imp fun q hq _ => ⟨hq.1.1, hq.1.2.1, ?_, hq.1.2.2.2⟩
  simp only [Value.ownBlock, ne_eq, Option.some.injEq]
  intro e
  rcases hp.at' with e2 | e2
  · rw [e] at e2; exact hq.1.2.2.1 e2
  · omega
theorem FB.popO {go co : Nat} (h : FB B g ac c T w l (d + 1) k vl (.slice (some ⟨go, 0, none⟩) (d + 1) co) pl r b p W) : FB B g ac c T w l d k vl (.slice (some ⟨go, 0, none⟩) d co) pl r b p W := ⟨h.flow.popO, h.ne, h.bb, h.blk⟩
theorem FB.pushB (h : FB B g ac c T w l d k vl vo pl r b p W) (gl : g < w.heap.size) {gg cc : Nat} (hp : Pushed W w.heap.size 37 11 vl l.length (blksC l pl) (blkC b p) gg cc W') :
    FlowAt B g ac c T w (l ++ [b]) d k (.slice (some ⟨gg, 0, none⟩) (l.length + 1) cc) vo (fun j => if j = l.length then p else pl j) W' :=
  h.flow.pushB gl (h.blk.imp fun q hq _ => ⟨hq.1, hq.2.1, hq.2.2.1⟩) hp
end
end Go.Proofs.Yteiogjgmedikhaa
