/-
  What cncmill.Axis and cncmill.Axes leave: valid axes. No condition beyond the types.
-/
import Derived.Test.YtdopbdcfompodaaMill
namespace Go.Proofs.Ytdopbdcfompodaa
open Go Go.RowKit
set_option linter.unusedVariables false

def zeroAxis : Array Value := #[.int .i64 0, .int .i64 0, .int .i64 0, .int .i64 0, .int .i64 0, .int .i64 0, .int .i64 0, .int .i64 0, .int .i64 0, .slice none 0 0]
/-- A slice of n numbers of the call's own, from lo to hi. -/
def Row (w : World) (g : Nat) (n : Nat) (v : Value) (l : List Int) : Prop := ∃ b, v = .slice (some ⟨b, 0, none⟩) n n ∧ b ≠ g ∧ l.length = n ∧ Blk w b 3 (l.map (Value.int .i64)).toArray
def Num (lo hi : Int) (v : Value) : Prop := ∃ r, v = .int .i64 r ∧ lo ≤ r ∧ r ≤ hi
def Cell (w : World) (g : Nat) (lo hi : Int) (v : Value) : Prop := ∃ (p : Addr) (x : Int), v = .pointer (some p) ∧ p.block ≠ g ∧ w.cell? p = some (.int .i64 x) ∧ lo ≤ x ∧ x ≤ hi
theorem Row.grown {w w' : World} {g n : Nat} {v : Value} {l : List Int} (h : Row w g n v l) (hg : w.grownBy w' (some g)) : Row w' g n v l := by
  obtain ⟨b, h1, h2, h3, h4⟩ := h
  exact ⟨b, h1, h2, h3, h4.grown hg (by simpa using h2)⟩
theorem Cell.grown {w w' : World} {g : Nat} {lo hi : Int} {v : Value} (h : Cell w g lo hi v) (hg : w.grownBy w' (some g)) : Cell w' g lo hi v := by
  obtain ⟨p, x, h1, h2, h3, h4⟩ := h
  exact ⟨p, x, h1, h2, hg.cell h3 (by simpa using h2), h4⟩
/-- An element of such a row, its index within. -/
theorem Row.at_ {w : World} {g n : Nat} {v : Value} {l : List Int} {lo hi : Int} (h : Row w g n v l) (hl : ∀ x ∈ l, lo ≤ x ∧ x ≤ hi) {r : Int} (h0 : 0 ≤ r) (h1 : r < n) :
    ∃ b x, v = .slice (some ⟨b, 0, none⟩) n n ∧ b ≠ g ∧ w.cell? ⟨b, r.toNat, none⟩ = some (.int .i64 x) ∧ lo ≤ x ∧ x ≤ hi := by
  obtain ⟨b, e, hb, hlen, hblk⟩ := h
  have hr : r.toNat < l.length := by omega
  refine ⟨b, l[r.toNat], e, hb, ?_, hl _ (List.getElem_mem hr)⟩
  rw [hblk.cell]
  simp [hr]

def ops1G (B2 g : Nat) (i : Nat) (v : Value) (w : World) : Prop :=
  match i with
  | 0 => Row w g 6 v [8, 4, 5, 16, 23, 64]
  | 1 => v = .pointer (some ⟨g, 0, none⟩)
  | 2 => Num 0 5 v
  | 3 => Cell w g 4 64 v
  | 4 => Num 4 64 v
  | 5 => Row w g 4 v [0, 1, 3, 6]
  | 6 => v = .pointer (some ⟨g, 0, none⟩)
  | 7 => Num 0 3 v
  | 8 => Cell w g 0 6 v
  | 9 => Num 0 6 v
  | 10 => ∃ x y, v = .agg #[.int .i64 x, .int .i64 0, .int .i64 0, .int .i64 0, .int .i64 (-16777216), .int .i64 16777216, .int .i64 y, .int .i64 0, .int .i64 0, .slice none 0 0] ∧ 4 ≤ x ∧ x ≤ 64 ∧ 0 ≤ y ∧ y ≤ 6
  | 11 => ∃ b, v = .pointer (some ⟨b, 0, none⟩) ∧ b ≠ g ∧ B2 ≤ b ∧ Blk w b 25 zeroAxis
  | _ => True

/-- What holds in the world between the operations: the source, the result's own block. -/
structure AxJ (w : World) (B g : Nat) (a : Option Addr) (n c : Nat) (z : Nat → Int) (w' : World) : Prop where
  src : ∃ k, Src w' B g a n c z k
  res : Blk w' w.heap.size 25 zeroAxis
  size : w.heap.size < w'.heap.size
  grown : w.grownBy w' (some g)
theorem AxJ.more {w : World} {B g : Nat} {a : Option Addr} {n c : Nat} {z : Nat → Int} {w1 w2 : World} (h : AxJ w B g a n c z w1) (hlt : g < w.heap.size) (hs : ∃ k, Src w2 B g a n c z k) (hg : w1.grownBy w2 (some g)) : AxJ w B g a n c z w2 :=
  ⟨hs, h.res.grown hg (by simp; omega), Nat.lt_of_lt_of_le h.size hg.size, grown_trans h.grown hg⟩
theorem AxJ.alloc {w : World} {B g : Nat} {a : Option Addr} {n c : Nat} {z : Nat → Int} {w1 : World} (h : AxJ w B g a n c z w1) (hlt : g < w.heap.size) (o : Obj) : AxJ w B g a n c z (w1.alloc o) :=
  h.more hlt (h.src.imp fun _ hk => hk.alloc o) (grown_alloc (grown_refl _ _) o)
theorem AxJ.row {w : World} {B g : Nat} {a : Option Addr} {n c : Nat} {z : Nat → Int} {w1 : World} (h : AxJ w B g a n c z w1) (hlt : g < w.heap.size) {b : Nat} (hb : w.heap.size + 1 ≤ b) (cs : Array Value) : AxJ w B g a n c z (w1.setRow b cs) :=
  ⟨h.src.imp fun _ hk => hk.setRow (by have := hk.old; omega) (by omega) cs, h.res.rowFar (by omega) cs, by have := h.size; simpa using this, grown_setRow h.grown (.inr (by omega)) cs⟩
theorem AxJ.cell {w : World} {B g : Nat} {a : Option Addr} {n c : Nat} {z : Nat → Int} {w1 : World} (h : AxJ w B g a n c z w1) (hlt : g < w.heap.size) {b : Nat} (hb : w.heap.size < b) (i : Nat) (u : Value) : AxJ w B g a n c z (w1.setCell ⟨b, i, none⟩ u) :=
  ⟨h.src.imp fun _ hk => hk.setCell (by have := hk.old; show B ≤ b; omega) (by show b ≠ g; omega) u, h.res.far (by show w.heap.size ≠ b; omega) u, by have := h.size; simpa [World.setCell] using this, grown_setCell h.grown (.inr (by show w.heap.size ≤ b; omega)) u⟩
def steps (d : Int) : List Int → Prop
  | [] => True
  | [_] => True
  | p :: q :: l => -d ≤ q - p ∧ q - p ≤ d ∧ steps d (q :: l)
theorem steps_snoc {d p q : Int} (h1 : -d ≤ q - p) (h2 : q - p ≤ d) : ∀ (l : List Int), steps d (l ++ [p]) → steps d (l ++ [p] ++ [q])
  | [], _ => ⟨h1, h2, trivial⟩
  | [x], h => ⟨h.1, h.2.1, h1, h2, trivial⟩
  | x :: y :: l, h => ⟨h.1, h.2.1, steps_snoc h1 h2 (y :: l) h.2.2⟩
theorem steps_init {d p : Int} : ∀ (l : List Int), steps d (l ++ [p]) → steps d l
  | [], _ => trivial
  | [_], _ => trivial
  | _ :: y :: l, h => ⟨h.1, h.2.1, steps_init (y :: l) h.2.2⟩
theorem AxJ.own {w : World} {B g : Nat} {a : Option Addr} {n c : Nat} {z : Nat → Int} {w1 w2 : World} (h : AxJ w B g a n c z w1) (hlt : g < w.heap.size) {row : Option Nat} (hg : w1.grownBy w2 row) (hr : ∀ k, row = some k → w.heap.size + 1 ≤ k) : AxJ w B g a n c z w2 :=
  ⟨h.src.imp fun k hk => hk.keep (hg.block g hk.lt (fun e => by have := hr g e.symm; omega)) fun p hp => World.cell?_of_block (hg.block p.block (by have := hk.lt; have := hk.old; omega) (fun e => by have := hr _ e.symm; have := hk.old; omega)),
    h.res.grown hg (fun e => by have := hr _ e.symm; omega), Nat.lt_of_lt_of_le h.size hg.size,
    ⟨hg.os.trans h.grown.os, hg.tape.trans h.grown.tape, hg.output.trans h.grown.output, Nat.le_trans h.grown.size hg.size, fun k hk hne => (hg.block k (Nat.lt_of_lt_of_le hk h.grown.size) (fun e => by have := hr k e.symm; omega)).trans (h.grown.block k hk hne)⟩⟩
/-- What holds at the head of the loop over the knots. -/
def AxLoop (w : World) (B g : Nat) (a : Option Addr) (n c : Nat) (z : Nat → Int) (b : Nat) (x sp ac je y og sg : Int) (m : Nat) (v5 v6 : Value) (wr : World) : Prop :=
  ∃ (kk : Nat) (p : Int) (ps : List Int) (pa : Option Addr) (pc : Nat), kk ≤ m ∧ v6 = .int .i64 kk ∧ v5 = .int .i64 p ∧ -4096 ≤ p ∧ p ≤ 4096 ∧ ps.length = kk ∧ (∀ q ∈ ps, -4096 ≤ q ∧ q ≤ 4096) ∧ steps (sg / 4) (ps ++ [p]) ∧ AxJ w B g a n c z wr ∧
    Blk wr b 25 #[.int .i64 x, .int .i64 sp, .int .i64 ac, .int .i64 je, .int .i64 (-16777216), .int .i64 16777216, .int .i64 y, .int .i64 og, .int .i64 sg, .slice pa kk pc] ∧
    wr.ownsRow (w.heap.size + 1) 3 1 (.slice pa kk pc) kk (ps.map (Value.int .i64))
theorem row_new (w : World) (g n : Nat) (l : List Int) (cs : Array Value) (hg : g < w.heap.size) (hl : l.length = n) (hcs : (l.map (Value.int .i64)).toArray = cs) : Row (w.alloc (.cells cs 3)) g n (.slice (some ⟨w.heap.size, 0, none⟩) n n) l :=
  ⟨w.heap.size, rfl, by omega, hl, by rw [hcs]; exact Blk.new _ _ _⟩

/-- An axis of the call's own. -/
structure AxisV where
  st : Int
  sp : Int
  ac : Int
  je : Int
  ba : Int
  og : Int
  sg : Int
  pa : Option Addr
  pn : Nat
  pc : Nat
  ps : List Int
def AxisV.cells (v : AxisV) : Array Value := #[.int .i64 v.st, .int .i64 v.sp, .int .i64 v.ac, .int .i64 v.je, .int .i64 (-16777216), .int .i64 16777216, .int .i64 v.ba, .int .i64 v.og, .int .i64 v.sg, .slice v.pa v.pn v.pc]
structure AxisV.Good (v : AxisV) : Prop where
  st : 4 ≤ v.st ∧ v.st ≤ 64
  sp : 1 ≤ v.sp ∧ v.sp ≤ 1000
  ac : 2 ≤ v.ac ∧ v.ac ≤ 1000
  je : 4 ≤ v.je ∧ v.je ≤ 1000
  ba : 0 ≤ v.ba ∧ v.ba ≤ 6
  pn : v.pn = v.ps.length
  few : v.ps.length ≤ 4
  og : v.ps ≠ [] → -200 ≤ v.og ∧ v.og ≤ 200
  sg : v.ps ≠ [] → 4 ≤ v.sg ∧ v.sg ≤ 123
  knot : ∀ p ∈ v.ps, -4096 ≤ p ∧ p ≤ 4096
  near : steps (v.sg / 4) v.ps
def AxisDone (B g : Nat) (a : Option Addr) (n c : Nat) (z : Nat → Int) (w : World) (e : Ending) (w' : World) : Prop :=
  ∃ v : AxisV, e = .returned (.agg v.cells) ∧ v.Good ∧ (∃ k, Src w' B g a n c z k) ∧ w.grownBy w' (some g) ∧ w'.ownsRow w.heap.size 3 1 (.slice v.pa v.pn v.pc) v.pn (v.ps.map (Value.int .i64))

set_option maxRecDepth 100000 in
set_option maxHeartbeats 1000000 in
theorem axis_any (w : World) (B g : Nat) (a : Option Addr) (n c k : Nat) (z : Nat → Int) (hs : Src w B g a n c z k) :
    Calls Try.prog 18 #[.pointer (some ⟨g, 0, none⟩)] w (AxisDone B g a n c z w) := by
  have hgl := hs.lt
  go_enter Try.func18, Try.ntmps18
  go_wp2_with fail
  refine wp_region_tab 12 [(0, 8), (1, 9), (2, 10), (3, 11), (4, 12), (5, 13), (6, 14), (7, 15), (8, 16), (9, 17), (10, 18), (11, 3)]
    [[], [], [(1, 9)], [(0, 8), (2, 10)], [(3, 11)], [], [], [(6, 14)], [(5, 13), (7, 15)], [(8, 16)], [(4, 12), (9, 17)], []] [(0, .pointer (some ⟨g, 0, none⟩))]
    (AxJ w B g a n c z) (fun w w' => w.grownBy w' (some g)) (ops1G (w.heap.size + 1) g)
    (by kernel_rfl) (by kernel_rfl) (by kernel_rfl) (by kernel_rfl) ?_ ?_ ?_ ?_ ?_
  · intro p hp
    simp only [List.mem_singleton] at hp
    subst hp
    rfl
  · intro i v w1 w2 hg hv
    unfold ops1G at hv ⊢
    split at hv
    all_goals first
      | exact hv.grown hg
      | exact hv
      | (obtain ⟨b, e, hb, h2, h3⟩ := hv; exact ⟨b, e, hb, h2, h3.grown hg (by simpa using hb)⟩)
  · exact ⟨⟨k, (hs.alloc _).drew⟩, Blk.drew (Blk.new _ _ _), by simp, grown_drew (grown_alloc (grown_refl _ _) _)⟩
  · simp only [EachOp]
    refine ⟨fun _ => ?_, fun _ => ?_, fun _ => ?_, fun _ => ?_, fun _ => ?_, fun _ => ?_, fun _ => ?_, fun _ => ?_, fun _ => ?_, fun _ => ?_, fun _ => ?_, fun _ => ?_, fun h => absurd rfl h, trivial⟩
    all_goals intro a1 w1 hJ hA hd; have hA0 := hA _ (List.mem_singleton.2 rfl); clear hA; simp only [List.getD_cons_zero, List.getD_cons_succ, List.mem_cons, List.not_mem_nil, or_false, forall_eq_or_imp, forall_eq] at hd; simp only at hA0
    -- the first row
    · clear hd hA0
      have hlt : g < w1.heap.size := by have := hJ.size; omega
      go_simp
      refine ⟨_, rfl, grown_alloc (grown_refl _ _) _, hJ.alloc hgl _, ?_⟩
      show Row _ _ _ _ _
      exact row_new w1 g 6 [8, 4, 5, 16, 23, 64] _ hlt rfl rfl
    · refine BigFrame.wp_move _ rfl ⟨_, rfl, grown_refl _ _, hJ, ?_⟩; show a1.tmps.getD 0 undef = _; rw [Array.getD_eq_getD_getElem?]; exact hA0
    · clear hA0
      have h9 : a1.tmps[9]?.getD undef = .pointer (some ⟨g, 0, none⟩) := hd
      clear hd
      go_simp
      refine (next_any w1 B g a n c z 6 hJ.src (by omega) (by omega)).mono ?_
      rintro e w2 ⟨r, k', h0, h1, rfl, hs', hg⟩
      exact ⟨_, rfl, hg, hJ.more hgl ⟨k', hs'⟩ hg, r, rfl, h0, by omega⟩
    · clear hA0
      obtain ⟨h8, h10⟩ := hd
      obtain ⟨r, er, h0, h1⟩ := h10
      obtain ⟨b, x, eb, hb, hc, hx1, hx2⟩ := Row.at_ (lo := 4) (hi := 64) h8 (by decide) h0 (by omega)
      clear h8
      have h1' : r < 6 := by omega
      go_simp
      exact ⟨_, rfl, grown_refl _ _, _, x, rfl, hb, hc, hx1, hx2⟩
    · clear hA0
      obtain ⟨p, x, ep, hp, hc, h0, h1⟩ := hd
      go_simp
      exact ⟨_, rfl, grown_refl _ _, x, rfl, h0, h1⟩
    -- the second row
    · clear hd hA0
      have hlt : g < w1.heap.size := by have := hJ.size; omega
      go_simp
      refine ⟨_, rfl, grown_alloc (grown_refl _ _) _, hJ.alloc hgl _, ?_⟩
      show Row _ _ _ _ _
      exact row_new w1 g 4 [0, 1, 3, 6] _ hlt rfl rfl
    · refine BigFrame.wp_move _ rfl ⟨_, rfl, grown_refl _ _, hJ, ?_⟩; show a1.tmps.getD 0 undef = _; rw [Array.getD_eq_getD_getElem?]; exact hA0
    · clear hA0
      have h9 : a1.tmps[14]?.getD undef = .pointer (some ⟨g, 0, none⟩) := hd
      clear hd
      go_simp
      refine (next_any w1 B g a n c z 4 hJ.src (by omega) (by omega)).mono ?_
      rintro e w2 ⟨r, k', h0, h1, rfl, hs', hg⟩
      exact ⟨_, rfl, hg, hJ.more hgl ⟨k', hs'⟩ hg, r, rfl, h0, by omega⟩
    · clear hA0
      obtain ⟨h8, h10⟩ := hd
      obtain ⟨r, er, h0, h1⟩ := h10
      obtain ⟨b, x, eb, hb, hc, hx1, hx2⟩ := Row.at_ (lo := 0) (hi := 6) h8 (by decide) h0 (by omega)
      clear h8
      have h1' : r < 4 := by omega
      go_simp
      exact ⟨_, rfl, grown_refl _ _, _, x, rfl, hb, hc, hx1, hx2⟩
    · clear hA0
      obtain ⟨p, x, ep, hp, hc, h0, h1⟩ := hd
      go_simp
      exact ⟨_, rfl, grown_refl _ _, x, rfl, h0, h1⟩
    -- the struct
    · clear hA0
      obtain ⟨⟨x, ex, hx1, hx2⟩, ⟨y, ey, hy1, hy2⟩⟩ := hd
      go_simp
      exact ⟨_, rfl, grown_refl _ _, x, y, rfl, hx1, hx2, hy1, hy2⟩
    · clear hd hA0
      have hlt : g < w1.heap.size := by have := hJ.size; omega
      have hlt2 := hJ.size
      go_simp
      exact ⟨_, rfl, grown_alloc (grown_refl _ _) _, hJ.alloc hgl _, w1.heap.size, rfl, by omega, by omega, Blk.new _ _ _⟩
  · intro vs w1 hJ hG
    have h10 := hG (10, 18) (by simp)
    have h11 := hG (11, 3) (by simp)
    clear hG
    simp only [ops1G] at h10 h11
    obtain ⟨x, y, hv, hx1, hx2, hy1, hy2⟩ := h10
    obtain ⟨b, hb, hbg, hbB, hbk⟩ := h11
    refine ⟨?_⟩
    simp only [AtOp, List.foldl_cons, List.foldl_nil]
    rw [hv, hb]
    simp only [Act.put, List.setIfInBounds_toArray, List.set_cons_zero, List.set_cons_succ]
    refine wp_store_row 25 _ _ rfl b _ rfl rfl 25 zeroAxis hbk (by kernel_rfl) rfl (by simp [Value.oneCell']) ?_
    refine on_told (fun w' => AxJ w B g a n c z w' ∧ w.heap.size < b ∧ Blk w' b 25 #[.int .i64 x, .int .i64 0, .int .i64 0, .int .i64 0, .int .i64 (-16777216), .int .i64 16777216, .int .i64 y, .int .i64 0, .int .i64 0, .slice none 0 0]) ⟨hJ.row hgl hbB _, by omega, hbk.setRow _⟩ ?_
    rintro w2 ⟨hJ2, hbw, hbk2⟩
    clear hJ hbk hv hb hbg hbB w1
    simp only [Act.put]
    go_wp2_with fail
    -- a limit
    refine calls_told (fun w' => AxJ w B g a n c z w' ∧ w2.heap.size < w'.heap.size ∧ Blk w' b 25 #[.int .i64 x, .int .i64 0, .int .i64 0, .int .i64 0, .int .i64 (-16777216), .int .i64 16777216, .int .i64 y, .int .i64 0, .int .i64 0, .slice none 0 0] ∧
      Blk w' w2.heap.size 3 (([40, 1, 3, 9, 1000] : List Int).map (Value.int .i64)).toArray) ⟨hJ2.alloc hgl _, by simp, hbk2.alloc _, Blk.new _ _ _⟩ ?_
    rintro wa0 ⟨ja0, za0, ba0, ra0⟩
    refine (next_any _ B g a n c z 5 ja0.src (by omega) (by omega)).mono ?_
    rintro e wb0 ⟨r0, k0, l0, u0, rfl, s0, g0⟩
    have jb0 := ja0.more hgl ⟨k0, s0⟩ g0
    have bb0 := ba0.grown g0 (by simp; omega)
    obtain ⟨sp, d0, sp0, sp1⟩ := ints_at (lo := 1) (hi := 1000) (ra0.grown g0 (by have := hJ2.size; simp; omega)) (by decide) l0 u0
    have c0 : wb0.cell? ⟨b, 1, none⟩ = some (.int .i64 0) := bb0.cell 1
    have f0 := bb0.frozen 1
    have u0' : r0 < 5 := u0
    clear u0 s0 ja0 za0 ba0 ra0 g0
    go_wp2_with fail
    clear d0 c0 f0 l0 u0'
    -- a limit
    refine calls_told (fun w' => AxJ w B g a n c z w' ∧ wb0.heap.size < w'.heap.size ∧ Blk w' b 25 #[.int .i64 x, .int .i64 sp, .int .i64 0, .int .i64 0, .int .i64 (-16777216), .int .i64 16777216, .int .i64 y, .int .i64 0, .int .i64 0, .slice none 0 0] ∧
      Blk w' wb0.heap.size 3 (([20, 2, 3, 5, 1000] : List Int).map (Value.int .i64)).toArray) ⟨(jb0.cell hgl hbw 1 _).alloc hgl _, by simp [World.setCell], (bb0.put 1 _).alloc _, Blk.newSet _ _ _ _ _⟩ ?_
    rintro wa1 ⟨ja1, za1, ba1, ra1⟩
    refine (next_any _ B g a n c z 5 ja1.src (by omega) (by omega)).mono ?_
    rintro e wb1 ⟨r1, k1, l1, u1, rfl, s1, g1⟩
    have jb1 := ja1.more hgl ⟨k1, s1⟩ g1
    have bb1 := ba1.grown g1 (by simp; omega)
    obtain ⟨ac, d1, ac0, ac1⟩ := ints_at (lo := 2) (hi := 1000) (ra1.grown g1 (by have := jb0.size; simp; omega)) (by decide) l1 u1
    have c1 : wb1.cell? ⟨b, 2, none⟩ = some (.int .i64 0) := bb1.cell 2
    have f1 := bb1.frozen 2
    have u1' : r1 < 5 := u1
    clear u1 s1 ja1 za1 ba1 ra1 g1
    go_wp2_with fail
    clear d1 c1 f1 l1 u1'
    -- a limit
    refine calls_told (fun w' => AxJ w B g a n c z w' ∧ wb1.heap.size < w'.heap.size ∧ Blk w' b 25 #[.int .i64 x, .int .i64 sp, .int .i64 ac, .int .i64 0, .int .i64 (-16777216), .int .i64 16777216, .int .i64 y, .int .i64 0, .int .i64 0, .slice none 0 0] ∧
      Blk w' wb1.heap.size 3 (([30, 4, 5, 8, 1000] : List Int).map (Value.int .i64)).toArray) ⟨(jb1.cell hgl hbw 2 _).alloc hgl _, by simp [World.setCell], (bb1.put 2 _).alloc _, Blk.newSet _ _ _ _ _⟩ ?_
    rintro wa2 ⟨ja2, za2, ba2, ra2⟩
    refine (next_any _ B g a n c z 5 ja2.src (by omega) (by omega)).mono ?_
    rintro e wb2 ⟨r2, k2, l2, u2, rfl, s2, g2⟩
    have jb2 := ja2.more hgl ⟨k2, s2⟩ g2
    have bb2 := ba2.grown g2 (by simp; omega)
    obtain ⟨je, d2, je0, je1⟩ := ints_at (lo := 4) (hi := 1000) (ra2.grown g2 (by have := jb1.size; simp; omega)) (by decide) l2 u2
    have c2 : wb2.cell? ⟨b, 3, none⟩ = some (.int .i64 0) := bb2.cell 3
    have f2 := bb2.frozen 3
    have u2' : r2 < 5 := u2
    clear u2 s2 ja2 za2 ba2 ra2 g2
    go_wp2_with fail
    clear d2 c2 f2 l2 u2'
    -- how many knots
    refine calls_told (fun w' => AxJ w B g a n c z w' ∧ Blk w' b 25 #[.int .i64 x, .int .i64 sp, .int .i64 ac, .int .i64 je, .int .i64 (-16777216), .int .i64 16777216, .int .i64 y, .int .i64 0, .int .i64 0, .slice none 0 0]) ⟨jb2.cell hgl hbw 3 _, bb2.put 3 _⟩ ?_
    rintro wc ⟨jc, bc⟩
    clear jb2 bb2 bb1 bb0 jb1 jb0 hbk2 hJ2
    refine (next_any _ B g a n c z 5 jc.src (by omega) (by omega)).mono ?_
    rintro e wd ⟨m, km, hm0, hm1, rfl, sm, gm⟩
    have jd := jc.more hgl ⟨km, sm⟩ gm
    have bd := bc.grown gm (by simp; omega)
    clear sm gm jc bc
    by_cases hm : m = 0
    · subst hm
      go_wp2_with (first | (refine wpList_load_row rfl 25 _ rfl b rfl 25 _ (0, 0) _ bd Try.underlying25 rfl (by kernel_rfl) ?_) | (refine wpList_store_row rfl 25 _ _ rfl w.heap.size _ rfl rfl 25 zeroAxis jd.res (by kernel_rfl) rfl (by simp [Value.oneCell']) ?_))
      refine bodyPost_ret (results_cell_row rfl _ _ w.heap.size 25 _ (0, 0) _ rfl (jd.res.setRow _) Try.underlying25 rfl (by kernel_rfl)) rfl ?_
      obtain ⟨kd, sd⟩ := jd.src
      exact ⟨⟨x, sp, ac, je, y, 0, 0, none, 0, 0, []⟩, rfl, ⟨⟨hx1, hx2⟩, ⟨sp0, sp1⟩, ⟨ac0, ac1⟩, ⟨je0, je1⟩, ⟨hy1, hy2⟩, rfl, by simp, fun h => absurd rfl h, fun h => absurd rfl h, by simp, trivial⟩,
        ⟨kd, sd.setRow (by have := hs.old; omega) (by omega) _⟩, grown_setRow jd.grown (.inr (Nat.le_refl _)) _, World.ownsRow_nil _ _ _ _⟩
    · obtain ⟨m', rfl⟩ := Int.eq_ofNat_of_zero_le hm0
      have hmb : ((m' : Int) == 0) = false := by simpa using hm
      go_wp2_with fail
      refine (next_any _ B g a n c z 400 jd.src (by omega) (by omega)).mono ?_
      rintro e we ⟨r, k', h0, h1, rfl, hs', hg⟩
      have je' := jd.more hgl ⟨k', hs'⟩ hg
      have be := bd.grown hg (by simp; omega)
      clear hs' hg jd bd
      go_wp2_with fail
      refine (next_any _ B g a n c z 120 je'.src (by omega) (by omega)).mono ?_
      rintro e wf ⟨r2, k2', h02, h12, rfl, hs2', hg2⟩
      have jf := je'.more hgl ⟨k2', hs2'⟩ hg2
      have bf := be.grown hg2 (by simp; omega)
      clear hs2' hg2 je' be
      have c7 : wf.cell? ⟨b, 7, none⟩ = some (.int .i64 0) := bf.cell 7
      have f7 := bf.frozen 7
      have c8 : wf.cell? ⟨b, 8, none⟩ = some (.int .i64 0) := bf.cell 8
      have f8 := bf.frozen 8
      go_wp2_with fail
      refine calls_told (fun w' => AxJ w B g a n c z w' ∧ Blk w' b 25 #[.int .i64 x, .int .i64 sp, .int .i64 ac, .int .i64 je, .int .i64 (-16777216), .int .i64 16777216, .int .i64 y, .int .i64 (r - 200), .int .i64 (4 + r2), .slice none 0 0]) ⟨(jf.cell hgl hbw 7 _).cell hgl hbw 8 _, (bf.put 7 _).put 8 _⟩ ?_
      rintro wg ⟨jg, bg⟩
      clear jf bf c7 f7 c8 f8
      refine (next_any _ B g a n c z 9 jg.src (by omega) (by omega)).mono ?_
      rintro e wh ⟨p0, k3, h03, h13, rfl, hs3, hg3⟩
      have jh := jg.more hgl ⟨k3, hs3⟩ hg3
      have bh := bg.grown hg3 (by simp; omega)
      clear hs3 hg3 jg bg
      have hmm : m' ≤ 4 := by omega
      obtain ⟨i0, hi, hz0, hz1, hz2⟩ := info_parts (P := Try.prog) (e := 3) (z := .int .i64 0) (size := 1) (bytes := 8) (by kernel_rfl)
      go_wp2_with fail
      go_loopw [5, 6] (fun v5 v6 wr => AxLoop w B g a n c z b x sp ac je y (r - 200) (4 + r2) m' v5 v6 wr) (fun _ v6 _ => m' - (intOf v6).toNat)
      case atStart => exact ⟨0, p0 - 4, [], none, 0, Nat.zero_le _, rfl, rfl, by omega, by omega, rfl, by simp, trivial, jh, bh, World.ownsRow_nil _ _ _ _⟩
      case round =>
        obtain ⟨kk, p, ps, pa, pc, hk, rfl, rfl, hp0, hp1, hl, hq, hst, jr, br, hown⟩ := hrel
        by_cases hlt : kk < m'
        · have c9 : wr.cell? ⟨b, 9, none⟩ = some (.slice pa kk pc) := br.cell 9
          go_wp2_with (at_builtin; refine wpList_append_own _ rfl _ _ 22 rfl (w.heap.size + 1) 3 i0 (.int .i64 0) 1 8 Try.underlying22 hi hz0 hz1 hz2 rfl (by decide) _ _ _ rfl (hown.alloc _) ⟨wr.heap.size, 0, none⟩ 1 1 [.int .i64 p] rfl rfl ?c1 ?c2 ?c3 ?c4 ?c5 ?_)
          case c1 => exact cell_one_new _ _ _
          case c2 => intro u hu; simp at hu; subst hu; rfl
          case c3 => unfold maxLen; omega
          case c4 => omega
          case c5 => have := jr.size; simp; omega
          intro v' w1 hown' hgrow _
          have hne := own_ne (hown.alloc (.cells #[.int .i64 p] 3)) (br.alloc _) (by decide)
          have j1 := (jr.alloc hgl (.cells #[.int .i64 p] 3)).own hgl hgrow (fun k hk => (hown.lt k hk).1)
          have b1 := (br.alloc (.cells #[.int .i64 p] 3)).grown hgrow hne
          obtain ⟨pa', pc', hv⟩ := own_form hown'
          rw [hv] at hown' ⊢
          clear hown hgrow hne jr br c9 hv
          have c9 : w1.cell? ⟨b, 9, none⟩ = some (.slice pa kk pc) := b1.cell 9
          have f9 := b1.frozen 9
          have c8 : w1.cell? ⟨b, 8, none⟩ = some (.int .i64 (4 + r2)) := b1.cell 8
          go_wp2_with fail
          refine (next_any _ B g a n c z _ (j1.cell hgl hbw 9 _).src (by omega) (by omega)).mono ?_
          rintro e w2 ⟨q, k4, h04, h14, rfl, hs4, hg4⟩
          have j2 := (j1.cell hgl hbw 9 _).more hgl ⟨k4, hs4⟩ hg4
          have b2 := (b1.put 9 _).grown hg4 (by simp; omega)
          have hown2 := own_grown (own_setCell (p := ⟨b, 9, none⟩) (u := .slice pa' (kk + 1) pc') hown' b1 (by decide)) hg4 (by intro k hk; injection hk; omega)
          clear hs4 hg4 j1 b1 c9 f9 c8 hown'
          go_wp2_with fail
          go_roundw
          case rel =>
            obtain ⟨u, hu, hu0, hu1, hu2, hu3⟩ : ∃ u, (if 4096 < if p + q - (4 + r2) / 4 < -4096 then -4096 else p + q - (4 + r2) / 4 then 4096 else if p + q - (4 + r2) / 4 < -4096 then -4096 else p + q - (4 + r2) / 4) = u ∧ -4096 ≤ u ∧ u ≤ 4096 ∧ -((4 + r2) / 4) ≤ u - p ∧ u - p ≤ (4 + r2) / 4 := by
              refine ⟨_, rfl, ?_⟩
              split <;> split <;> omega
            rw [hu]
            refine ⟨kk + 1, u, ps ++ [p], pa', pc', hlt, by go_num, rfl, hu0, hu1, by simp [hl], ?_, steps_snoc hu2 hu3 _ hst, j2, b2, by simpa using hown2⟩
            intro x hx
            rcases List.mem_append.1 hx with hx | hx
            · exact hq x hx
            · simp at hx; subst hx; exact ⟨hp0, hp1⟩
          case measure => simp [intOf]; omega
        · obtain rfl : kk = m' := by omega
          go_wp2_with (first | (refine wpList_load_row rfl 25 _ rfl b rfl 25 _ (0, 0) _ br Try.underlying25 rfl (by kernel_rfl) ?_) | (refine wpList_store_row rfl 25 _ _ rfl w.heap.size _ rfl rfl 25 zeroAxis jr.res (by kernel_rfl) rfl (by simp [Value.oneCell']) ?_))
          refine bodyPost_ret (results_cell_row rfl _ _ w.heap.size 25 _ (0, 0) _ rfl (jr.res.setRow _) Try.underlying25 rfl (by kernel_rfl)) rfl ?_
          obtain ⟨kd, sd⟩ := jr.src
          exact ⟨⟨x, sp, ac, je, y, r - 200, 4 + r2, pa, kk, pc, ps⟩, rfl, ⟨⟨hx1, hx2⟩, ⟨sp0, sp1⟩, ⟨ac0, ac1⟩, ⟨je0, je1⟩, ⟨hy1, hy2⟩, hl.symm, by simp only; omega, fun _ => by simp only; omega, fun _ => by simp only; omega, hq, steps_init _ hst⟩,
            ⟨kd, sd.setRow (by have := hs.old; omega) (by omega) _⟩, grown_setRow jr.grown (.inr (Nat.le_refl _)) _,
            own_base (own_grown (row := some w.heap.size) hown (grown_setRow (grown_refl _ _) (.inl rfl) _) (by intro k hk; injection hk; omega)) (by omega)⟩
end Go.Proofs.Ytdopbdcfompodaa
