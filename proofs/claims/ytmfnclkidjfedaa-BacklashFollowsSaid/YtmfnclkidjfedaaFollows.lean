/-
  BacklashFollows returns true. Its arguments: any.
-/
import Derived.Test.YtmfnclkidjfedaaPlay
namespace Go.Proofs.Ytmfnclkidjfedaa
open Go Go.RowKit
set_option linter.unusedVariables false

/-- Behind k moves: the nominal positions, the positions of the motor, where the table is, the direction. -/
structure Fol (b t : Int) (noms mots : List Int) (k : Nat) (n dir : Int) : Prop where
  ln : noms.length = k
  lm : mots.length = k
  dir : dir = 1 ∨ dir = -1
  lo : t - 10 * k ≤ n
  hi : n ≤ t + 10 * k
  now : stateL b t mots k = n
  all : ∀ i, i < k → stateL b t mots (i + 1) = noms.getD i 0
  mot : ∀ i, i < k → t - 10 * k - b ≤ mots.getD i 0 ∧ mots.getD i 0 ≤ t + 10 * k
theorem stateL_append (b t : Int) (z y : List Int) (k : Nat) (hk : k ≤ z.length) : stateL b t (z ++ y) k = stateL b t z k := by
  unfold stateL
  rw [List.take_append_of_le_length hk]
theorem Fol.next {b t : Int} {noms mots : List Int} {k : Nat} {n dir d dir' : Int} (h : Fol b t noms mots k n dir) (hb : 0 ≤ b) (hd : -10 ≤ d ∧ d ≤ 10) (hdir : (0 < d ∧ dir' = 1) ∨ (d < 0 ∧ dir' = -1) ∨ (d = 0 ∧ dir' = dir)) :
    Fol b t (noms ++ [n + d]) (mots ++ [n + d + shiftOf b dir']) (k + 1) (n + d) dir' := by
  have h1 : stateL b t (mots ++ [n + d + shiftOf b dir']) (k + 1) = n + d := by
    rw [stateL_succ b t _ k (by simp [h.lm]), stateL_append b t _ _ k (by rw [h.lm]; omega), h.now]
    have : (mots ++ [n + d + shiftOf b dir']).getD k 0 = n + d + shiftOf b dir' := by simp [← h.lm]
    rw [this]
    have hdd := h.dir
    unfold tab shiftOf
    split <;> omega
  have hs : -b ≤ shiftOf b dir' ∧ shiftOf b dir' ≤ 0 := by unfold shiftOf; split <;> omega
  have hlo := h.lo
  have hhi := h.hi
  refine ⟨by simp [h.ln], by simp [h.lm], ?_, by omega, by omega, h1, fun i hi => ?_, fun i hi => ?_⟩
  · have := h.dir; omega
  · by_cases e : i = k
    · subst e
      rw [h1]
      simp [← h.ln]
    · rw [stateL_append b t _ _ _ (by rw [h.lm]; omega), h.all i (by omega)]
      simp [List.getElem?_append_left (show i < noms.length by rw [h.ln]; omega)]
  · by_cases e : i = k
    · subst e
      have : (mots ++ [n + d + shiftOf b dir']).getD i 0 = n + d + shiftOf b dir' := by simp [← h.lm]
      rw [this]
      omega
    · have hm := h.mot i (by omega)
      have : (mots ++ [n + d + shiftOf b dir']).getD i 0 = mots.getD i 0 := by simp [List.getElem?_append_left (show i < mots.length by rw [h.lm]; omega)]
      rw [this]
      omega

def Apart (u v : Value) : Prop := u.ownBlock = none ∨ u.ownBlock ≠ v.ownBlock
theorem apart_symm {u v : Value} (h : Apart u v) : v.ownBlock = none ∨ v.ownBlock ≠ u.ownBlock := by
  unfold Apart at h
  cases hv : v.ownBlock with
  | none => exact .inl rfl
  | some b =>
    rw [hv] at h
    rcases h with h | h
    · rw [h]; exact .inr (by simp)
    · exact .inr (Ne.symm h)
theorem apart_new {N : Nat} {u u' v : Value} (h : Apart u v) (hb : u'.ownBlock = u.ownBlock ∨ u'.ownBlock = some N) (hv : ∀ k, v.ownBlock = some k → k < N) : Apart u' v := by
  rcases hb with hb | hb
  · unfold Apart; rw [hb]; exact h
  · unfold Apart; rw [hb]
    refine .inr fun e => ?_
    have := hv _ e.symm
    omega
theorem fol_app {w wr w1 : World} {N M k1 k2 : Nat} {xs : Array Value} {u u' v x : Value} {l1 l2 : List Value} (belr : Below w.heap.size w wr) (hN : w.heap.size ≤ N) (hblk : Blk wr N 25 xs)
    (own1 : wr.ownsRow (N + 1) 3 1 u k1 l1) (own2 : wr.ownsRow (N + 1) 3 1 v k2 l2) (hap : Apart u v) (hg : (wr.alloc (.cells #[x] 3)).grownBy w1 u.ownBlock) (hb : u'.ownBlock = u.ownBlock ∨ u'.ownBlock = some M) (hM : wr.heap.size < M) :
    Below w.heap.size w w1 ∧ Blk w1 N 25 xs ∧ w1.ownsRow (N + 1) 3 1 v k2 l2 ∧ Apart u' v :=
  ⟨(belr.alloc (by have := belr.size; omega) _).grown hg (by have := belr.size; simp; omega) (fun k hk => by have := (own1.lt k hk).1; omega),
    (hblk.alloc _).grown hg (own_ne (own1.alloc (.cells #[x] 3)) (hblk.alloc _) (by decide)),
    (own2.alloc _).kept hg (apart_symm hap),
    apart_new hap hb (fun k hk => by have := (own2.lt k hk).2; omega)⟩
def FolLoop (w wb : World) (xs : Array Value) (b t : Int) (m : Nat) (v8 v9 v10 v11 v30 : Value) (wr : World) : Prop :=
  ∃ (k : Nat) (noms mots : List Int) (n dir : Int), k ≤ m ∧ v30 = .int .i64 k ∧ v10 = .int .i64 n ∧ v11 = .int .i64 dir ∧ Fol b t noms mots k n dir ∧ Below w.heap.size w wr ∧ Blk wr wb.heap.size 25 xs ∧
    wr.ownsRow (wb.heap.size + 1) 3 1 v8 k (noms.map (Value.int .i64)) ∧ wr.ownsRow (wb.heap.size + 1) 3 1 v9 k (mots.map (Value.int .i64)) ∧ Apart v8 v9

set_option maxRecDepth 100000 in
set_option maxHeartbeats 2000000 in
theorem follows_walk (a0 : Option Addr) (len0 cap0 : Nat) (z0 : List Int) (a1 : Int) (a2 : Option Addr) (len2 cap2 : Nat) (z2 : List Int) (w : World) (hr : IsRow .i64 w a0 len0 cap0 z0) (hr2 : IsRow .i64 w a2 len2 cap2 z2) :
    Calls Try.prog 7 #[.slice a0 len0 cap0, .int .i64 a1, .slice a2 len2 cap2] w fun e w' => e = .returned (.bool true) ∧ Below w.heap.size w w' := by
  have hnum := hr2.num
  have hmost := hr2.most
  have hlen := hr2.len_le
  go_enter Try.func7, Try.ntmps7
  go_wp2_with fail
  refine (awake_true _).mono ?_
  rintro e wa ⟨rfl, bela⟩
  go_wp2_with fail
  refine (axes_any wa _ _ _ z0 (hr.below bela)).mono ?_
  rintro e wb ⟨v1, v2, v3, rfl, g1, g2, g3, belb, own⟩
  have bel := bela.trans (belb.mono bela.size)
  clear bela belb own
  have i0 := fun W => axis0 v1 v2 v3 W
  simp only [AxisV.cells, List.append_toArray, List.cons_append, List.nil_append] at i0 ⊢
  obtain ⟨i0', hi, hz0, hz1, hz2⟩ := info_parts (P := Try.prog) (e := 3) (z := .int .i64 0) (size := 1) (bytes := 8) (by kernel_rfl)
  go_wp2_with fail
  refine (mod_any _ _ _ (by omega) (by omega)).mono ?_
  rintro e w' ⟨rfl, rfl⟩
  obtain ⟨t, ht, t0, t1⟩ : ∃ t, a1 % 1048576 = t ∧ 0 ≤ t ∧ t < 1048576 := ⟨_, rfl, by omega, by omega⟩
  rw [ht]
  clear ht
  by_cases h2 : len2 ≤ 100
  · go_wp2_with fail
    go_loopw [8, 9, 10, 11, 30] (fun v8 v9 v10 v11 v30 wr => FolLoop w wb #[.int .i64 v1.st, .int .i64 v1.sp, .int .i64 v1.ac, .int .i64 v1.je, .int .i64 (-16777216), .int .i64 16777216, .int .i64 v1.ba, .int .i64 v1.og, .int .i64 v1.sg, .slice v1.pa v1.pn v1.pc] v1.ba t len2 v8 v9 v10 v11 v30 wr) (fun _ _ _ _ v30 _ => len2 - (intOf v30).toNat)
    case atStart => exact ⟨0, [], [], t, 1, by omega, rfl, rfl, rfl, ⟨rfl, rfl, .inl rfl, by omega, by omega, rfl, fun i hi => absurd hi (by omega), fun i hi => absurd hi (by omega)⟩, by repeat (first | exact bel | (refine Below.alloc ?_ (by have := bel.size; simp; try omega) _) | refine Below.drew ?_), Blk.new _ _ _, World.ownsRow_nil _ _ _ _, World.ownsRow_nil _ _ _ _, .inl rfl⟩
    case round =>
      obtain ⟨k, noms, mots, n, dir, hk, rfl, rfl, rfl, hfol, belr, hblk, own8, own9, hapart⟩ := hrel
      by_cases hlt : k < len2
      · obtain ⟨b, o, rfl, hbl, hc⟩ := hnum k hlt
        have hcr : wr.cell? ⟨b, o + k, none⟩ = some (.int .i64 (z2.getD k 0)) := (belr.cell hbl).trans hc
        clear hc
        generalize z2.getD k 0 = zk at hcr
        have i1 : (0 : Int) ≤ (k : Int) := by omega
        have i2 : (k : Int) < (len2 : Int) := by omega
        have hlo := hfol.lo
        have hhi := hfol.hi
        go_wp2_with fail
        refine (mod_any _ _ _ (by omega) (by omega)).mono ?_
        rintro e w' ⟨rfl, rfl⟩
        obtain ⟨r, hr', r0, r1⟩ : ∃ r, zk % 21 = r ∧ 0 ≤ r ∧ r < 21 := ⟨_, rfl, by omega, by omega⟩
        rw [hr']
        clear hr'
        have three : 0 < r - 10 ∨ r - 10 < 0 ∨ r = 10 := by omega
        rcases three with hd | hd | rfl
        · have hfol' := hfol.next (d := r - 10) (dir' := 1) g1.ba.1 (by omega) (.inl ⟨hd, rfl⟩)
          have HF := Lib.hid hfol'
          have hsb : -6 ≤ shiftOf v1.ba 1 ∧ shiftOf v1.ba 1 ≤ 0 := by have := g1.ba; unfold shiftOf; split <;> omega
          obtain ⟨hsb1, hsb2⟩ := hsb
          have hwb := bel.size
          clear hfol hfol'
          go_wp2_with (at_builtin; refine wpList_append_own_at _ rfl (.tmp 44) (.tmp 46) 22 rfl (wb.heap.size + 1) 3 i0' (.int .i64 0) 1 8 Try.underlying22 hi hz0 hz1 hz2 rfl (by decide) _ _ _ rfl (own8.alloc _) ⟨wr.heap.size, 0, none⟩ 1 1 [.int .i64 (n + (r - 10))] rfl rfl (cell_one_at _ _ _ _ (by simp)) (by simp [Value.oneCell']) (by unfold maxLen; omega) (by omega) (by have := belr.size; have := hblk.lt; simp; omega) ?_)
          intro v8 w1 own8b hg1 _ hb1
          obtain ⟨belr1, hblk1, own9b, hap1⟩ := fol_app belr hwb hblk own8 own9 hapart hg1 hb1 (by omega)
          clear own8 own9 hg1 hb1 belr hblk hapart
          have hblt := hblk1.lt
          have e0 := hblk1.cell 0
          have e1 := hblk1.cell 1
          have e2 := hblk1.cell 2
          have e3 := hblk1.cell 3
          have e4 := hblk1.cell 4
          have e5 := hblk1.cell 5
          have e6 := hblk1.cell 6
          have e7 := hblk1.cell 7
          have e8 := hblk1.cell 8
          have e9 := hblk1.cell 9
          simp at e0 e1 e2 e3 e4 e5 e6 e7 e8 e9
          go_wp2_with fail
          refine (shift_any v1 g1 _ _).mono ?_
          rintro e w' ⟨rfl, rfl⟩
          dsimp only [AxisV.cells]
          go_wp2_with (at_builtin; refine wpList_append_own_at _ rfl (.tmp 48) (.tmp 54) 22 rfl (wb.heap.size + 1) 3 i0' (.int .i64 0) 1 8 Try.underlying22 hi hz0 hz1 hz2 rfl (by decide) _ _ _ rfl ((own9b.alloc _).alloc _) ⟨w1.heap.size + 1, 0, none⟩ 1 1 [.int .i64 ((n + (r - 10)) + shiftOf v1.ba 1)] rfl rfl (cell_one_at _ _ _ _ (by simp)) (by simp [Value.oneCell']) (by unfold maxLen; omega) (by omega) (by have := belr1.size; have := hblk1.lt; simp; omega) ?_)
          intro v9 w2 own9c hg2 _ hb2
          obtain ⟨belr2, hblk2, own8c, hap2⟩ := fol_app (belr1.alloc belr1.size _) hwb (hblk1.alloc _) (own9b.alloc _) (own8b.alloc _) (apart_symm hap1) hg2 hb2 (by simp)
          clear own8b own9b hg2 hb2 belr1 hblk1 hap1
          go_wp2_with fail
          go_roundw
          case rel => exact ⟨k + 1, _, _, _, _, hlt, by go_num, rfl, rfl, HF.out, belr2, hblk2, by simpa using own8c, by simpa using own9c, apart_symm hap2⟩
          case measure => simp [intOf]; omega
        · have hfol' := hfol.next (d := r - 10) (dir' := -1) g1.ba.1 (by omega) (.inr (.inl ⟨hd, rfl⟩))
          have HF := Lib.hid hfol'
          have hsb : -6 ≤ shiftOf v1.ba (-1) ∧ shiftOf v1.ba (-1) ≤ 0 := by have := g1.ba; unfold shiftOf; split <;> omega
          obtain ⟨hsb1, hsb2⟩ := hsb
          have hwb := bel.size
          clear hfol hfol'
          go_wp2_with (at_builtin; refine wpList_append_own_at _ rfl (.tmp 44) (.tmp 46) 22 rfl (wb.heap.size + 1) 3 i0' (.int .i64 0) 1 8 Try.underlying22 hi hz0 hz1 hz2 rfl (by decide) _ _ _ rfl (own8.alloc _) ⟨wr.heap.size, 0, none⟩ 1 1 [.int .i64 (n + (r - 10))] rfl rfl (cell_one_at _ _ _ _ (by simp)) (by simp [Value.oneCell']) (by unfold maxLen; omega) (by omega) (by have := belr.size; have := hblk.lt; simp; omega) ?_)
          intro v8 w1 own8b hg1 _ hb1
          obtain ⟨belr1, hblk1, own9b, hap1⟩ := fol_app belr hwb hblk own8 own9 hapart hg1 hb1 (by omega)
          clear own8 own9 hg1 hb1 belr hblk hapart
          have hblt := hblk1.lt
          have e0 := hblk1.cell 0
          have e1 := hblk1.cell 1
          have e2 := hblk1.cell 2
          have e3 := hblk1.cell 3
          have e4 := hblk1.cell 4
          have e5 := hblk1.cell 5
          have e6 := hblk1.cell 6
          have e7 := hblk1.cell 7
          have e8 := hblk1.cell 8
          have e9 := hblk1.cell 9
          simp at e0 e1 e2 e3 e4 e5 e6 e7 e8 e9
          go_wp2_with fail
          refine (shift_any v1 g1 _ _).mono ?_
          rintro e w' ⟨rfl, rfl⟩
          dsimp only [AxisV.cells]
          go_wp2_with (at_builtin; refine wpList_append_own_at _ rfl (.tmp 48) (.tmp 54) 22 rfl (wb.heap.size + 1) 3 i0' (.int .i64 0) 1 8 Try.underlying22 hi hz0 hz1 hz2 rfl (by decide) _ _ _ rfl ((own9b.alloc _).alloc _) ⟨w1.heap.size + 1, 0, none⟩ 1 1 [.int .i64 ((n + (r - 10)) + shiftOf v1.ba (-1))] rfl rfl (cell_one_at _ _ _ _ (by simp)) (by simp [Value.oneCell']) (by unfold maxLen; omega) (by omega) (by have := belr1.size; have := hblk1.lt; simp; omega) ?_)
          intro v9 w2 own9c hg2 _ hb2
          obtain ⟨belr2, hblk2, own8c, hap2⟩ := fol_app (belr1.alloc belr1.size _) hwb (hblk1.alloc _) (own9b.alloc _) (own8b.alloc _) (apart_symm hap1) hg2 hb2 (by simp)
          clear own8b own9b hg2 hb2 belr1 hblk1 hap1
          go_wp2_with fail
          go_roundw
          case rel => exact ⟨k + 1, _, _, _, _, hlt, by go_num, rfl, rfl, HF.out, belr2, hblk2, by simpa using own8c, by simpa using own9c, apart_symm hap2⟩
          case measure => simp [intOf]; omega
        · have hfol' := hfol.next (d := 0) (dir' := dir) g1.ba.1 (by omega) (.inr (.inr ⟨rfl, rfl⟩))
          rw [Int.add_zero] at hfol'
          have HF := Lib.hid hfol'
          have hsb : -6 ≤ shiftOf v1.ba dir ∧ shiftOf v1.ba dir ≤ 0 := by have := g1.ba; unfold shiftOf; split <;> omega
          obtain ⟨hsb1, hsb2⟩ := hsb
          have hwb := bel.size
          clear hfol hfol'
          go_wp2_with (at_builtin; refine wpList_append_own_at _ rfl (.tmp 44) (.tmp 46) 22 rfl (wb.heap.size + 1) 3 i0' (.int .i64 0) 1 8 Try.underlying22 hi hz0 hz1 hz2 rfl (by decide) _ _ _ rfl (own8.alloc _) ⟨wr.heap.size, 0, none⟩ 1 1 [.int .i64 n] rfl rfl (cell_one_at _ _ _ _ (by simp)) (by simp [Value.oneCell']) (by unfold maxLen; omega) (by omega) (by have := belr.size; have := hblk.lt; simp; omega) ?_)
          intro v8 w1 own8b hg1 _ hb1
          obtain ⟨belr1, hblk1, own9b, hap1⟩ := fol_app belr hwb hblk own8 own9 hapart hg1 hb1 (by omega)
          clear own8 own9 hg1 hb1 belr hblk hapart
          have hblt := hblk1.lt
          have e0 := hblk1.cell 0
          have e1 := hblk1.cell 1
          have e2 := hblk1.cell 2
          have e3 := hblk1.cell 3
          have e4 := hblk1.cell 4
          have e5 := hblk1.cell 5
          have e6 := hblk1.cell 6
          have e7 := hblk1.cell 7
          have e8 := hblk1.cell 8
          have e9 := hblk1.cell 9
          simp at e0 e1 e2 e3 e4 e5 e6 e7 e8 e9
          go_wp2_with fail
          refine (shift_any v1 g1 _ _).mono ?_
          rintro e w' ⟨rfl, rfl⟩
          dsimp only [AxisV.cells]
          go_wp2_with (at_builtin; refine wpList_append_own_at _ rfl (.tmp 48) (.tmp 54) 22 rfl (wb.heap.size + 1) 3 i0' (.int .i64 0) 1 8 Try.underlying22 hi hz0 hz1 hz2 rfl (by decide) _ _ _ rfl ((own9b.alloc _).alloc _) ⟨w1.heap.size + 1, 0, none⟩ 1 1 [.int .i64 (n + shiftOf v1.ba dir)] rfl rfl (cell_one_at _ _ _ _ (by simp)) (by simp [Value.oneCell']) (by unfold maxLen; omega) (by omega) (by have := belr1.size; have := hblk1.lt; simp; omega) ?_)
          intro v9 w2 own9c hg2 _ hb2
          obtain ⟨belr2, hblk2, own8c, hap2⟩ := fol_app (belr1.alloc belr1.size _) hwb (hblk1.alloc _) (own9b.alloc _) (own8b.alloc _) (apart_symm hap1) hg2 hb2 (by simp)
          clear own8b own9b hg2 hb2 belr1 hblk1 hap1
          go_wp2_with fail
          go_roundw
          case rel => exact ⟨k + 1, _, _, _, _, hlt, by go_num, rfl, rfl, HF.out, belr2, hblk2, by simpa using own8c, by simpa using own9c, apart_symm hap2⟩
          case measure => simp [intOf]; omega
      · obtain rfl : k = len2 := by omega
        have hlo := hfol.lo
        have hhi := hfol.hi
        obtain ⟨a8, c8, rfl⟩ := own_form own8
        obtain ⟨a9, c9, rfl⟩ := own_form own9
        have hF := Lib.hid hfol
        clear hfol
        have hwb := bel.size
        have hblt := hblk.lt
        have e0 := hblk.cell 0
        have e1 := hblk.cell 1
        have e2 := hblk.cell 2
        have e3 := hblk.cell 3
        have e4 := hblk.cell 4
        have e5 := hblk.cell 5
        have e6 := hblk.cell 6
        have e7 := hblk.cell 7
        have e8 := hblk.cell 8
        have e9 := hblk.cell 9
        simp at e0 e1 e2 e3 e4 e5 e6 e7 e8 e9
        go_wp2_with fail
        have hlm : k ≤ mots.length := by rw [hF.out.lm]; omega
        refine (play_any v1 g1 t a9 k c9 mots wr (ints_own own9) hlm h2 ⟨by omega, by omega⟩ (fun i hi => by have := hF.out.mot i hi; have := g1.ba; omega)).mono ?_
        rintro e wc ⟨rfl, hout, belc⟩
        have hn8 := ints_below (ints_own own8) belc
        have belw := belr.trans (belc.mono belr.size)
        clear own8 own9 belr belc hblk e0 e1 e2 e3 e4 e5 e6 e7 e8 e9 hapart
        go_wp2_with fail
        go_loopw [68] (fun v wx => ∃ j : Nat, j ≤ k ∧ v = .int .i64 j ∧ Below w.heap.size w wx ∧ Blk wx (wr.heap.size + 1) 3 (outc v1.ba t mots k k) ∧ Ints wx a8 k noms) (fun v _ => k - (intOf v).toNat)
        case atStart => exact ⟨0, by omega, rfl, belw, hout, hn8⟩
        case round =>
          clear belw hout hn8
          rename_i wx _
          obtain ⟨j, hj, rfl, belx, hout, hn8⟩ := hrel
          by_cases hlt : j < k
          · obtain ⟨b, o, rfl, hbl, hc⟩ := hn8 j hlt
            have co := (hout.cell j).trans (outc_at _ _ _ _ _ hlt)
            rw [hF.out.all j hlt] at co
            have HN := Lib.hid hn8
            clear hn8
            generalize noms.getD j 0 = x at hc co
            have i1 : (0 : Int) ≤ (j : Int) := by omega
            have i2 : (j : Int) < (k : Int) := by omega
            go_wp2_with fail
            go_quiet (fail)
            go_wp2_with fail
            go_roundw
            case rel => exact ⟨j + 1, hlt, by go_num, ⟨belx.os, belx.tape, belx.output, belx.size, belx.block⟩, hout, HN.out⟩
            case measure => simp [intOf]; omega
          · obtain rfl : j = k := by omega
            go_wp2_with fail
            go_ret
            exact ⟨rfl, belx⟩
  · go_wp2_with fail
    go_ret
    exact ⟨rfl, by repeat (first | exact bel | (refine Below.alloc ?_ (by have := bel.size; simp; try omega) _) | refine Below.drew ?_)⟩
end Go.Proofs.Ytmfnclkidjfedaa
