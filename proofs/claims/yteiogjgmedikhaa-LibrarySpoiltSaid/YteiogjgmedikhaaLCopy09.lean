/-
  LibraryCopies.
-/
import Derived.Test.YteiogjgmedikhaaLLab09
namespace Go.Proofs.Yteiogjgmedikhaa
open Go Go.RowKit
set_option linter.unusedVariables false


/-- n elements of C cells from the head of a block on, whatever they hold. -/
def HasRow (lo hi : Nat) (W : World) (a : Option Addr) (T : TypeId) (C n : Nat) : Prop := n = 0 ∨ ∃ b s, a = some ⟨b, s, none⟩ ∧ lo ≤ b ∧ b < hi ∧ ∃ cur, Blk W b T cur ∧ s + n * C ≤ cur.size
theorem blk_any {W : World} {g : Nat} {t : TypeId} {cur : Array Value} (h : Blk W g t cur) (b o : Nat) (v : Value) : ∃ cur', Blk (W.setCell ⟨b, o, none⟩ v) g t cur' ∧ cur'.size = cur.size := by
  by_cases e : g = b
  · subst e; exact ⟨_, h.put o v, by simp⟩
  · exact ⟨cur, h.far (p := ⟨b, o, none⟩) e v, rfl⟩
theorem HasRow.set {lo hi : Nat} {W : World} {a : Option Addr} {T : TypeId} {C n : Nat} (h : HasRow lo hi W a T C n) (b o : Nat) (v : Value) : HasRow lo hi (W.setCell ⟨b, o, none⟩ v) a T C n := by
  rcases h with h | ⟨g, s, e, h1, h2, cur, hb, hs⟩
  · exact .inl h
  · obtain ⟨cur', hb', hs'⟩ := blk_any hb b o v
    exact .inr ⟨g, s, e, h1, h2, cur', hb', by omega⟩
theorem HasRow.of {lo hi : Nat} {W : World} {T : TypeId} {C n : Nat} {f : Nat → List Value} {a : Option Addr} (h : RowAt (fun q => lo ≤ q ∧ q < hi) W T C n f a) (hC : 0 < C) : HasRow lo hi W a T C n := by
  by_cases hn : n = 0
  · exact .inl hn
  rcases h with h | ⟨b, e, hp, cur, hb, hc⟩
  · exact .inl h
  · refine .inr ⟨b, 0, e, hp.1, hp.2, cur, hb, ?_⟩
    have := hc (n - 1) (by omega)
    have h2 := this.2 (C - 1) (by omega)
    rw [List.getElem?_eq_getElem (by omega)] at h2
    have h3 := (Array.getElem?_eq_some_iff.1 h2).1
    have h4 : (n - 1) * C + C = n * C := by rw [← Nat.succ_mul, Nat.succ_eq_add_one, Nat.sub_add_cancel (by omega)]
    omega
theorem HasRow.has {lo hi : Nat} {W : World} {a : Option Addr} {T : TypeId} {C n : Nat} (h : HasRow lo hi W a T C n) (hn : 0 < n) : ∃ b s, a = some ⟨b, s, none⟩ ∧ lo ≤ b ∧ b < hi ∧ (∃ cur, Blk W b T cur) ∧ ∀ j, j < n * C → (∃ v, W.cell? ⟨b, s + j, none⟩ = some v) ∧ W.frozen? ⟨b, s + j, none⟩ = false := by
  rcases h with h | ⟨g, s, e, h1, h2, cur, hb, hs⟩
  · omega
  · exact ⟨g, s, e, h1, h2, ⟨cur, hb⟩, fun j hj => ⟨⟨cur[s + j]'(by omega), by rw [hb.cell, Array.getElem?_eq_getElem (by omega)]⟩, hb.frozen (s + j)⟩⟩
/-- The blocks that are spoilt: what lies elsewhere is as in V. -/
structure CpAt (lo hi : Nat) (V : World) (L : List BlkL) (pl : Nat → Place) (fb : Nat) (W : World) : Prop where
  env : W.os = V.os ∧ W.tape = V.tape ∧ W.output = V.output
  size : W.heap.size = V.heap.size
  same : ∀ q, q < lo ∨ hi ≤ q → W.heap[q]? = V.heap[q]?
  at' : lo ≤ fb ∧ fb < hi
  row : HasRow lo hi W (some ⟨fb, 0, none⟩) 37 11 L.length
  c3 : ∀ (i : Nat) (b : BlkL), L[i]? = some b → W.cell? ⟨fb, i * 11 + 3, none⟩ = some (.slice (pl i).words b.words.length (pl i).cap)
  c9 : ∀ (i : Nat) (b : BlkL), L[i]? = some b → W.cell? ⟨fb, i * 11 + 9, none⟩ = some (.slice (pl i).x.a b.x.kids.length (pl i).x.cap)
  words : ∀ (i : Nat) (b : BlkL), L[i]? = some b → HasRow lo hi W (pl i).words 48 4 b.words.length
  kids : ∀ (i : Nat) (b : BlkL), L[i]? = some b → HasRow lo hi W (pl i).x.a 35 3 b.x.kids.length
theorem CpAt.set {lo hi : Nat} {V : World} {L : List BlkL} {pl : Nat → Place} {fb : Nat} {W : World} (h : CpAt lo hi V L pl fb W) {q o : Nat} {v : Value} (hq : lo ≤ q ∧ q < hi) (hn : q = fb → ∀ i, o ≠ i * 11 + 3 ∧ o ≠ i * 11 + 9) : CpAt lo hi V L pl fb (W.setCell ⟨q, o, none⟩ v) := by
  refine ⟨h.env, by simp [World.setCell, h.size], fun g hg => (Below.heap_setCell W ⟨q, o, none⟩ v g (by simp only; omega)).trans (h.same g hg), h.at', h.row.set q o v, fun i b hb => ?_, fun i b hb => ?_, fun i b hb => (h.words i b hb).set q o v, fun i b hb => (h.kids i b hb).set q o v⟩
  · exact (World.cell?_setCell_other W ⟨q, o, none⟩ _ v (fun e => by injection e with e1 e2; exact (hn e1 i).1 e2)).trans (h.c3 i b hb)
  · exact (World.cell?_setCell_other W ⟨q, o, none⟩ _ v (fun e => by injection e with e1 e2; exact (hn e1 i).2 e2)).trans (h.c9 i b hb)
theorem CpAt.below {lo hi : Nat} {V : World} {L : List BlkL} {pl : Nat → Place} {fb : Nat} {W w : World} (h : CpAt lo hi V L pl fb W) (hb : Below w.heap.size w V) (hl : w.heap.size ≤ lo) : Below w.heap.size w W :=
  ⟨h.env.1.trans hb.os, h.env.2.1.trans hb.tape, h.env.2.2.trans hb.output, by rw [h.size]; exact hb.size, fun k hk => (h.same k (.inl (by omega))).trans (hb.block k hk)⟩
theorem HasRow.ofE {lo hi : Nat} {W : World} {x : Ex} {a : Option Addr} {cap : Nat} (h : ExP (fun q => lo ≤ q ∧ q < hi) W x a cap) : HasRow lo hi W a 35 3 x.kids.length := by
  cases h with
  | @mk op n kids a cap k hn hc hm h =>
    show HasRow lo hi W a 35 3 kids.length
    by_cases hz : kids.length = 0
    · exact .inl hz
    rcases hn with hn | ⟨b, o, cur, e, hp, hb, hcl⟩
    · exact .inl (by rw [hn]; rfl)
    · refine .inr ⟨b, o, e, hp.1, hp.2, cur, hb, ?_⟩
      have h2 := hcl (kids.length - 1) (by omega) 2 (by omega)
      have hl : (kidC kids k (kids.length - 1)).length = 3 := kidC_len (by omega)
      rw [List.getElem?_eq_getElem (by omega)] at h2
      have h3 := (Array.getElem?_eq_some_iff.1 h2).1
      omega
theorem LibP.keep {p : Nat → Prop} {W W' : World} {bs : List BlkL} {P : List (Int × Nat)} {n : Nat} {M : List Int} {ab : Option Addr} {cb : Nat} {pl : Nat → Place} {ap : Option Addr} {cp : Nat} {am : Option Addr} {cm : Nat} (h : LibP p W bs P n M ab cb pl ap cp am cm)
    (hk : ∀ g, p g → g < W.heap.size → W'.heap[g]? = W.heap[g]?) : LibP p W' bs P n M ab cb pl ap cp am cm := ⟨h.blks.keep hk, h.progs.keep hk, h.mate.keep hk, h.nilp, h.nilm, h.most⟩
theorem CpAt.start {lo hi : Nat} {V : World} {L : List BlkL} {pl : Nat → Place} {a : Option Addr} {cap : Nat} (h : BlksP (fun q => lo ≤ q ∧ q < hi) V L a cap pl) (hn : 0 < L.length) : ∃ fb, a = some ⟨fb, 0, none⟩ ∧ CpAt lo hi V L pl fb V := by
  obtain ⟨fb, rfl, hp, hot⟩ := h.row.some hn
  have hc := hot.tab
  have cell : ∀ (i : Nat) (b : BlkL) (j : Nat), L[i]? = some b → j < 11 → V.cell? ⟨fb, i * 11 + j, none⟩ = (blkC b (pl i))[j]? := fun i b j hb hj => by
    obtain ⟨_, b', o', e, _, h2⟩ := hc i (List.getElem?_eq_some_iff.1 hb).1
    injection e with e
    injection e with e1 e2
    subst e1 e2
    have := h2 j hj
    rw [blksC_at hb, Nat.zero_add] at this
    exact this
  exact ⟨fb, rfl, ⟨rfl, rfl, rfl⟩, rfl, fun q _ => rfl, hp, HasRow.of h.row (by decide), fun i b hb => cell i b 3 hb (by omega), fun i b hb => cell i b 9 hb (by omega),
    fun i b hb => HasRow.of (h.blk i b hb).words.row (by decide), fun i b hb => HasRow.ofE (h.blk i b hb).x⟩
theorem LibP.imp {p q : Nat → Prop} {W : World} {bs : List BlkL} {P : List (Int × Nat)} {n : Nat} {M : List Int} {ab : Option Addr} {cb : Nat} {pl : Nat → Place} {ap : Option Addr} {cp : Nat} {am : Option Addr} {cm : Nat} (h : LibP p W bs P n M ab cb pl ap cp am cm)
    (hk : ∀ g, p g → g < W.heap.size → q g) : LibP q W bs P n M ab cb pl ap cp am cm := ⟨h.blks.imp hk, h.progs.imp hk, h.mate.imp hk, h.nilp, h.nilm, h.most⟩
theorem slim_kids {m : Nat} {x : Ex} (h : slimE m x) : x.kids.length ≤ 2 := by
  cases m with
  | zero => exact h.elim
  | succ m =>
    obtain ⟨op, n, ks⟩ := x
    exact h.1
set_option maxRecDepth 100000 in
set_option maxHeartbeats 4000000 in
theorem copies_walk (a0 : Option Addr) (len0 cap0 : Nat) (z0 : List Int) (w : World) (w0 : IsRow .i64 w a0 len0 cap0 z0) :
    Calls Try.prog 6 #[.slice a0 len0 cap0] w fun e w' => e = .returned (.bool true) ∧ Below w.heap.size w w' := by
  obtain ⟨T, hT⟩ : ∃ T : Tp, T = ⟨len0, fun i => z0.getD i 0⟩ := ⟨_, rfl⟩
  have HT := Lib.hid hT
  clear hT
  obtain ⟨s, hfl⟩ := flow_lib T
  have hnm : s.mate.length = (flowF T).length := (mates_inv _ s (Nat.le_refl _) (buildB_ok hfl).2.2.1).len
  have hn33 := flow_len T
  have hpos := flow_pos T
  have HSL := Lib.hid (fun i b h => slim_of_valid ((buildB_ok hfl).2.1 i b h))
  generalize hL : flowF T = L at *
  have HL := Lib.hid hL
  have HFL := Lib.hid hfl
  have HNM := Lib.hid hnm
  clear hfl hnm hL
  have KL := Lib.hid (light_any w a0 len0 cap0)
  have KA := Lib.hid awake_true
  have W0 := Lib.hid w0
  clear w0
  go_enter Try.func6, Try.ntmps6
  go_wp2_with fail
  refine KL.out.mono ?_
  rintro e w' ⟨rfl, rfl⟩
  by_cases hlen : 120 < len0
  · have dl : decide (len0 ≤ 120) = false := decide_eq_false (by omega)
    go_wp2_with fail
    refine (KA.out _).mono ?_
    rintro e w' ⟨rfl, b9⟩
    go_wp2_with fail
    go_ret
    exact ⟨rfl, b9⟩
  have dl : decide (len0 ≤ 120) = true := decide_eq_true (by omega)
  have BW := Lib.hid (Below.refl w.heap.size w)
  have HLEN := Lib.hid hlen
  clear hlen KL
  go_wp2_with fail
  refine (tape_new _ a0 len0 cap0 z0 (W0.out.below BW.out) (by have := HLEN.out; omega)).mono ?_
  rintro e u1 ⟨rfl, hs, b1⟩
  rw [← HT.out] at hs
  have bw := BW.out.size
  have HS1 := Lib.hid hs
  have HC1 := Lib.hid b1
  have HB1 := Lib.hid (belowMore BW.out b1)
  clear hs b1
  go_wp2_with fail
  refine (flow_any u1 _ _ _ _ _ HS1.out).mono ?_
  rintro e v2 ⟨fa, fc, fp, rfl, hbs, kx, ht⟩
  rw [HL.out] at hbs ⊢
  have FB := Lib.hid (hbs.imp (q := fun q => u1.heap.size ≤ q ∧ q < v2.heap.size) fun q hq hl => ⟨hq, hl⟩)
  have B2 := Lib.hid (ht.below HB1.out bw)
  have Z2 := Lib.hid (show w.heap.size ≤ u1.heap.size from HB1.out.size)
  have Z3 := Lib.hid ht.size
  clear hbs ht HS1 HB1 HC1 bw
  go_wp2_with fail
  refine (build_any _ fa fc fp v2 FB.out.at).mono ?_
  intro e v3 hp
  unfold LibPost at hp
  rw [HFL.out] at hp
  obtain ⟨ab1, cb1, pl1, ap1, cp1, am1, cm1, rfl, hlib, b3⟩ := hp
  rw [HNM.out]
  have LN1 := Lib.hid hlib
  have LB1 := Lib.hid b3
  clear hlib b3
  unfold libV
  go_wp2_with fail
  refine calls_told (fun W => Below w.heap.size w W ∧ Blk W v3.heap.size 42 #[.slice ab1 L.length cb1, .slice ap1 s.progs.length cp1, .slice am1 L.length cm1] ∧ LibP (fun q => v2.heap.size ≤ q) W L s.progs L.length s.mate ab1 cb1 pl1 ap1 cp1 am1 cm1 ∧ BlksP (fun q => u1.heap.size ≤ q ∧ q < v2.heap.size) W L fa fc fp ∧ v3.heap.size < W.heap.size) (by
    have h2 : Below v3.heap.size v3 (v3.alloc (.cells #[.slice ab1 L.length cb1, .slice ap1 s.progs.length cp1, .slice am1 L.length cm1] 42)) := (Below.refl _ _).alloc (Nat.le_refl _) _
    exact ⟨belowMore (belowMore B2.out LB1.out) h2, Blk.new _ _ _, LN1.out.keep fun q _ hl => h2.block q hl, (FB.out.under LB1.out).under h2, by simp⟩) ?_
  rintro W4 ⟨b4, r4, l4, h4, z4⟩
  have B4 := Lib.hid b4
  have R4 := Lib.hid r4
  have L4 := Lib.hid l4
  have H4 := Lib.hid h4
  clear b4 r4 l4 h4 LN1 B2 FB
  go_wp2_with fail
  refine (tape_new _ a0 len0 cap0 z0 (W0.out.below B4.out) (by have := HLEN.out; omega)).mono ?_
  rintro e v1 ⟨rfl, hs, b1⟩
  have bw := B4.out.size
  have hb1 := belowMore B4.out b1
  rw [← HT.out] at hs
  have HS := Lib.hid hs
  have HB1 := Lib.hid hb1
  have HC1 := Lib.hid b1
  clear hs hb1 b1
  go_wp2_with fail
  refine (flow_any v1 _ _ _ _ _ HS.out).mono ?_
  rintro e v6 ⟨ga, gc, gp, rfl, hbs, kx, ht⟩
  rw [HL.out] at hbs ⊢
  have GB := Lib.hid hbs
  have B6 := Lib.hid (ht.below HB1.out bw)
  have LX := Lib.hid (ht.below HC1.out (Nat.le_refl _))
  clear hbs ht HS HB1 HC1 bw
  go_wp2_with fail
  refine (rbuild_any _ ga gc gp v6 GB.out.at).mono ?_
  intro e v7 hp
  unfold LibPost at hp
  rw [HFL.out] at hp
  obtain ⟨ab2, cb2, pl2, ap2, cp2, am2, cm2, rfl, hlib, b3⟩ := hp
  rw [HNM.out]
  have LN2 := Lib.hid hlib
  have LB2 := Lib.hid b3
  clear hlib b3
  unfold libV
  go_upto_region 6 with fail
  refine on_told (fun W => Below w.heap.size w W ∧ Blk W v3.heap.size 42 #[.slice ab1 L.length cb1, .slice ap1 s.progs.length cp1, .slice am1 L.length cm1] ∧ Blk W v7.heap.size 42 #[.slice ab2 L.length cb2, .slice ap2 s.progs.length cp2, .slice am2 L.length cm2] ∧ LibP (fun q => v2.heap.size ≤ q) W L s.progs L.length s.mate ab1 cb1 pl1 ap1 cp1 am1 cm1 ∧ LibP (fun q => v2.heap.size ≤ q) W L s.progs L.length s.mate ab2 cb2 pl2 ap2 cp2 am2 cm2 ∧ BlksP (fun q => u1.heap.size ≤ q ∧ q < v2.heap.size) W L fa fc fp) (by
    have h1 : Below W4.heap.size W4 v7 := belowMore LX.out LB2.out
    have h2 : Below v7.heap.size v7 (v7.alloc (.cells #[.slice ab2 L.length cb2, .slice ap2 s.progs.length cp2, .slice am2 L.length cm2] 42)) := (Below.refl _ _).alloc (Nat.le_refl _) _
    have h3 := belowMore h1 h2
    have hz : v2.heap.size ≤ v6.heap.size := Nat.le_trans (Nat.le_trans LB1.out.size (Nat.le_of_lt z4)) LX.out.size
    exact ⟨belowMore (belowMore B6.out LB2.out) h2, R4.out.below h3 R4.out.lt, Blk.new _ _ _, L4.out.keep fun q _ hl => h3.block q hl, (LN2.out.keep fun q _ hl => h2.block q hl).imp fun q hq _ => Nat.le_trans hz hq, H4.out.under h3⟩) ?_
  rintro V ⟨h1, h2, h3, h4, h5, h6⟩
  obtain ⟨fb, rfl, hcp⟩ := CpAt.start h6 hpos
  have VB := Lib.hid h1
  have V1 := Lib.hid h2
  have V2 := Lib.hid h3
  have V3 := Lib.hid h4
  have V4 := Lib.hid h5
  have hz3 : v2.heap.size ≤ v3.heap.size := LB1.out.size
  have hz7 : v2.heap.size ≤ v7.heap.size := Nat.le_trans (Nat.le_trans (Nat.le_trans LB1.out.size (Nat.le_of_lt z4)) LX.out.size) LB2.out.size
  have HZ := Lib.hid (And.intro hz3 hz7)
  have CP := Lib.hid hcp
  clear h1 h2 h3 h4 h5 h6 hcp hz3 hz7 R4 L4 H4 LN2 LB1 LB2 LX B6 GB B4 z4
  go_wp2_with fail
  go_loopw [10] (fun t10 W => ∃ i : Nat, i ≤ L.length ∧ t10 = .int .i64 i ∧ CpAt u1.heap.size v2.heap.size V L fp fb W) (fun sv _ => L.length - (intOf sv).toNat)
  case atStart => exact ⟨0, by omega, rfl, CP.out⟩
  case round =>
    obtain ⟨i, hi, rfl, hat⟩ := hrel
    rename World => W8
    have K8 := Lib.hid hat
    clear hat CP
    by_cases hlt : i < L.length
    · have i0 : (0 : Int) ≤ (i : Int) := by omega
      have i1 : (i : Int) < (L.length : Int) := by omega
      have d1 : decide (i < L.length) = true := decide_eq_true hlt
      have HLT := Lib.hid hlt
      have hb : L[i]? = some L[i] := List.getElem?_eq_getElem hlt
      generalize L[i] = b at hb
      have HB := Lib.hid hb
      have hsb := HSL.out i b hb
      have hw24 := hsb.words
      have hk2 := slim_kids hsb.x
      clear hb hsb
      go_wp2_with fail
      go_loopw [11] (fun t11 W => ∃ k : Nat, k ≤ b.words.length ∧ t11 = .int .i64 k ∧ CpAt u1.heap.size v2.heap.size V L fp fb W) (fun sv _ => b.words.length - (intOf sv).toNat)
      case atStart => exact ⟨0, by omega, rfl, K8.out⟩
      case round =>
        obtain ⟨k, hk, rfl, hat⟩ := hrel
        rename World => W9
        have K9 := Lib.hid hat
        clear hat K8
        have c3 := K9.out.c3 i b HB.out
        have k0 : (0 : Int) ≤ (k : Int) := by omega
        by_cases hkt : k < b.words.length
        · have d2 : decide (k < b.words.length) = true := decide_eq_true hkt
          have k1 : (k : Int) < (b.words.length : Int) := by omega
          obtain ⟨wb, ws, ew, hw1, hw2, ⟨cur, hbw⟩, hcell⟩ := (K9.out.words i b HB.out).has (by omega)
          obtain ⟨⟨x0, u0⟩, z0'⟩ := hcell (k * 4) (by omega)
          obtain ⟨⟨x1, u1'⟩, z1⟩ := hcell (k * 4 + 1) (by omega)
          obtain ⟨⟨x2, u2⟩, z2⟩ := hcell (k * 4 + 2) (by omega)
          obtain ⟨⟨x3, u3⟩, z3⟩ := hcell (k * 4 + 3) (by omega)
          simp only [← Nat.add_assoc] at u1' z1 u2 z2 u3 z3
          have hne : wb ≠ fb := fun e => by
            rcases K9.out.row with h | ⟨g, sx, e1, _, _, cur2, hb2, _⟩
            · omega
            · injection e1 with e1
              injection e1 with e1
              subst e e1
              have := hbw.symm.trans hb2
              injection this with this
              injection this with _ this
              revert this; decide
          rw [ew] at c3
          have HW := Lib.hid (And.intro hw1 (And.intro hw2 hne))
          clear hw1 hw2 hne hbw hcell ew
          go_wp2_with fail
          clear u0 u1' u2 u3 z0' z1 z2 z3 c3
          go_roundw
          case rel => exact ⟨k + 1, by omega, by go_num, (((K9.out.set ⟨HW.out.1, HW.out.2.1⟩ (fun e => absurd e HW.out.2.2)).set ⟨HW.out.1, HW.out.2.1⟩ (fun e => absurd e HW.out.2.2)).set ⟨HW.out.1, HW.out.2.1⟩ (fun e => absurd e HW.out.2.2)).set ⟨HW.out.1, HW.out.2.1⟩ (fun e => absurd e HW.out.2.2)⟩
          case measure => simp [intOf]; omega
        · have d2 : decide (k < b.words.length) = false := decide_eq_false hkt
          have d2' : decide ((k : Int) < (b.words.length : Int)) = false := decide_eq_false (by omega)
          obtain ⟨fb', fs, ef, hf1, hf2, _, hcell⟩ := K9.out.row.has (by have := HLT.out; omega)
          injection ef with ef
          injection ef with e1 e2
          subst e1 e2
          obtain ⟨⟨x0, u0⟩, z0'⟩ := hcell (i * 11) (by have := HLT.out; omega)
          obtain ⟨⟨x1, u1'⟩, z1⟩ := hcell (i * 11 + 1) (by have := HLT.out; omega)
          simp only [Nat.zero_add] at u0 z0' u1' z1
          have HF := Lib.hid (And.intro hf1 hf2)
          clear hf1 hf2 hcell
          go_wp2_with fail
          clear u0 z0' u1' z1 c3
          have K10 := Lib.hid ((K9.out.set HF.out (fun _ j => by omega)).set HF.out (fun _ j => by omega) : CpAt u1.heap.size v2.heap.size V L fp fb ((W9.setCell ⟨fb, i * 11, none⟩ (.int .i64 99)).setCell ⟨fb, i * 11 + 1, none⟩ (.int .i64 99)))
          generalize (W9.setCell ⟨fb, i * 11, none⟩ (.int .i64 99)).setCell ⟨fb, i * 11 + 1, none⟩ (.int .i64 99) = W10 at *
          clear K9
          go_loopw [12] (fun t12 W => ∃ k : Nat, k ≤ b.x.kids.length ∧ t12 = .int .i64 k ∧ CpAt u1.heap.size v2.heap.size V L fp fb W) (fun sv _ => b.x.kids.length - (intOf sv).toNat)
          case atStart => exact ⟨0, by omega, rfl, K10.out⟩
          case round =>
            obtain ⟨m, hm, rfl, hat⟩ := hrel
            rename World => W11
            have K11 := Lib.hid hat
            clear hat K10
            have c9 := K11.out.c9 i b HB.out
            have m0 : (0 : Int) ≤ (m : Int) := by omega
            by_cases hmt : m < b.x.kids.length
            · have d3 : decide (m < b.x.kids.length) = true := decide_eq_true hmt
              have m1 : (m : Int) < (b.x.kids.length : Int) := by omega
              obtain ⟨kb, ks, ek, hk1, hk2', ⟨cur, hbk⟩, hcell⟩ := (K11.out.kids i b HB.out).has (by omega)
              obtain ⟨⟨x0, u0⟩, z0'⟩ := hcell (m * 3) (by omega)
              have hne : kb ≠ fb := fun e => by
                rcases K11.out.row with h | ⟨g, sx, e1, _, _, cur2, hb2, _⟩
                · omega
                · injection e1 with e1
                  injection e1 with e1
                  subst e e1
                  have := hbk.symm.trans hb2
                  injection this with this
                  injection this with _ this
                  revert this; decide
              rw [ek] at c9
              have HK := Lib.hid (And.intro hk1 (And.intro hk2' hne))
              clear hk1 hk2' hne hbk hcell ek
              go_wp2_with fail
              clear u0 z0' c9
              go_roundw
              case rel => exact ⟨m + 1, by omega, by go_num, K11.out.set ⟨HK.out.1, HK.out.2.1⟩ (fun e => absurd e HK.out.2.2)⟩
              case measure => simp [intOf]; omega
            · have d3 : decide (m < b.x.kids.length) = false := decide_eq_false hmt
              have d3' : decide ((m : Int) < (b.x.kids.length : Int)) = false := decide_eq_false (by omega)
              go_wp2_with fail
              go_roundw
              case rel => exact ⟨i + 1, HLT.out, by go_num, K11.out⟩
              case measure => have := HLT.out; simp [intOf]; omega
    · obtain rfl : i = L.length := by omega
      have d1 : decide (L.length < L.length) = false := by simp
      have hsm := K8.out.same
      have g1 := V1.out.lt
      have g2 := V2.out.lt
      have r1 : Blk W8 v3.heap.size 42 #[.slice ab1 L.length cb1, .slice ap1 s.progs.length cp1, .slice am1 L.length cm1] := (hsm _ (.inr HZ.out.1)).trans V1.out
      have r2 : Blk W8 v7.heap.size 42 #[.slice ab2 L.length cb2, .slice ap2 s.progs.length cp2, .slice am2 L.length cm2] := (hsm _ (.inr HZ.out.2)).trans V2.out
      have n1 := LibN.of HFL.out (show LibP (fun q => v2.heap.size ≤ q) W8 L s.progs L.length s.mate ab1 cb1 pl1 ap1 cp1 am1 cm1 from V3.out.keep fun q hq _ => hsm q (.inr hq))
      have n2 := LibN.of HFL.out (show LibP (fun q => v2.heap.size ≤ q) W8 L s.progs L.length s.mate ab2 cb2 pl2 ap2 cp2 am2 cm2 from V4.out.keep fun q hq _ => hsm q (.inr hq))
      have K9 := Lib.hid (show LawAt w v3.heap.size v7.heap.size #[.slice ab1 L.length cb1, .slice ap1 s.progs.length cp1, .slice am1 L.length cm1] #[.slice ab2 L.length cb2, .slice ap2 s.progs.length cp2, .slice am2 L.length cm2] L s.progs s.mate L.length s.progs.length ab1 cb1 pl1 ap1 cp1 am1 cm1 ab2 cb2 pl2 ap2 cp2 am2 cm2 W8 from ⟨K8.out.below VB.out Z2.out, r1, r2, n1, n2⟩)
      clear hsm g1 g2 r1 r2 n1 n2 K8 V1 V2 V3 V4
      go_wp2_with fail
      refine (KA.out _).mono ?_
      rintro e W10 ⟨rfl, b9⟩
      have K10 := Lib.hid (K9.out.under b9)
      clear b9
      have e0 := K10.out.one.cell' 0 rfl
      have e1 := K10.out.one.cell' 1 rfl
      have e2 := K10.out.one.cell' 2 rfl
      have f0 := K10.out.two.cell' 0 rfl
      have f1 := K10.out.two.cell' 1 rfl
      have f2 := K10.out.two.cell' 2 rfl
      go_wp2_with fail
      clear e0 e1 e2 f0 f1 f2
      refine (K10.out.l1.same K10.out.l2).mono ?_
      rintro e W11 ⟨rfl, b9⟩
      have K11 := Lib.hid (K10.out.under b9)
      clear b9
      go_wp2_with fail
      go_ret
      exact ⟨rfl, K11.out.bel⟩
end Go.Proofs.Yteiogjgmedikhaa
