/-
  LibraryBuild.
-/
import Derived.Test.YteiogjgmedikhaaBuilt09
import Derived.Test.YteiogjgmedikhaaOpenB09
namespace Go.Proofs.Yteiogjgmedikhaa
open Go Go.RowKit
set_option linter.unusedVariables false

def DepthPost (m : Nat) (w : World) (e : Ending) (w' : World) : Prop := ∃ d : Nat, e = .returned (.int .i64 d) ∧ 1 ≤ d ∧ d ≤ m ∧ Below w.heap.size w w'
set_option maxRecDepth 100000 in
set_option maxHeartbeats 1000000 in
theorem depth_any : ∀ (m : Nat) (x : Ex) (a : Option Addr) (cap : Nat) (w : World), 1 ≤ m → m ≤ 100 → ExAt w x a cap →
    Calls Try.prog 44 #[.agg #[.int .i64 x.op, .int .i64 x.n, .slice a x.kids.length cap], .int .i64 m] w (DepthPost m w) := by
  intro m
  induction m with
  | zero => intro x a cap w h; omega
  | succ m ih =>
    intro x a cap w h1 h2 hx
    obtain ⟨op, n, ks⟩ := x
    show Calls Try.prog 44 #[.agg #[.int .i64 op, .int .i64 n, .slice a ks.length cap], .int .i64 ((m + 1 : Nat) : Int)] w _
    obtain ⟨k, ht, hk, hc, hm, h0⟩ := hx.tab
    have IH := Lib.hid ih
    have HT := Lib.hid ht
    have HK := Lib.hid hk
    have K0 := Lib.hid (Keeps.new (Below.refl w.heap.size w) (Nat.le_refl _) 35 #[.int .i64 op, .int .i64 n, .slice a ks.length cap])
    have hm1 : IntKind.i64.wrap (((m + 1 : Nat) : Int) - 1) = m := by rw [IntKind.wrap_i64]; omega
    clear hx ih ht hk h0
    rw [show (((m + 1 : Nat) : Int)) = (m : Int) + 1 by omega] at *
    go_enter Try.func44, Try.ntmps44
    go_wp2_with fail
    go_loopw [5, 6] (fun s5 s6 wr => ∃ i d : Nat, i ≤ ks.length ∧ d ≤ m ∧ s5 = .int .i64 d ∧ s6 = .int .i64 i ∧ Keeps w.heap.size w w.heap.size 35 #[.int .i64 op, .int .i64 n, .slice a ks.length cap] wr) (fun _ s _ => ks.length - (intOf s).toNat)
    case atStart => exact ⟨0, 0, by omega, by omega, rfl, rfl, K0.out⟩
    case round =>
      obtain ⟨i, d, hi, hd, rfl, rfl, hkp⟩ := hrel
      have KP := Lib.hid hkp
      have i0 : (0 : Int) ≤ (i : Int) := by omega
      have c2 := hkp.blk.cell 2
      clear hkp
      by_cases hlt : i < ks.length
      · have d1 : decide (i < ks.length) = true := decide_eq_true hlt
        have d1' : decide ((i : Int) < (ks.length : Int)) = true := decide_eq_true (by omega)
        have i1 : (i : Int) < (ks.length : Int) := by omega
        by_cases hm0 : m = 0
        · subst hm0
          go_wp2_with fail
          go_ret
          exact ⟨d + 1, by simp, by omega, by omega, KP.out.bel⟩
        · have d2 : decide (1 < (m : Int) + 1) = true := decide_eq_true (by omega)
          have hxi : ks[i]? = some ks[i] := List.getElem?_eq_getElem hlt
          generalize ks[i] = x at hxi
          obtain ⟨_, b, o, rfl, hb, hcc⟩ := HT.out i hlt
          rw [kidC_at hxi] at hcc
          have p0 := (KP.out.bel.cell (p := ⟨b, o + i * 3 + 0, none⟩) hb).trans (hcc 0 (by decide))
          have p1 := (KP.out.bel.cell (p := ⟨b, o + i * 3 + 1, none⟩) hb).trans (hcc 1 (by decide))
          have p2 := (KP.out.bel.cell (p := ⟨b, o + i * 3 + 2, none⟩) hb).trans (hcc 2 (by decide))
          simp only [exC, Nat.add_zero] at p0 p1 p2
          have KD := Lib.hid (fun W (hb : Below w.heap.size w W) => IH.out x _ _ W (by omega) (by omega) ((HK.out i x hxi).under hb))
          clear hb hcc hxi
          go_wp2_with fail
          clear p0 p1 p2 c2
          refine (KD.out _ KP.out.bel).mono ?_
          rintro e w2 ⟨d2', rfl, hd1, hd2, b2⟩
          have KP2 := Lib.hid (KP.out.below b2)
          have hmx : max (d : Int) (d2' : Int) = ((max d d2' : Nat) : Int) := by omega
          clear b2 KD
          go_wp2_with fail
          go_roundw
          case rel => exact ⟨i + 1, max d d2', by omega, by omega, by simp; split <;> omega, by go_num, KP2.out⟩
          case measure => simp [intOf]; omega
      · obtain rfl : i = ks.length := by omega
        have d1 : decide (ks.length < ks.length) = false := by simp
        have d1' : decide ((ks.length : Int) < (ks.length : Int)) = false := by simp
        go_wp2_with fail
        go_ret
        exact ⟨d + 1, by simp, by omega, by omega, KP.out.bel⟩
set_option maxRecDepth 100000 in
theorem Depth_any (x : Ex) (a : Option Addr) (cap : Nat) (w : World) (hx : ExAt w x a cap) :
    Calls Try.prog 34 #[.agg #[.int .i64 x.op, .int .i64 x.n, .slice a x.kids.length cap]] w fun e w' => ∃ d : Nat, e = .returned (.int .i64 d) ∧ Below w.heap.size w w' := by
  have KD := Lib.hid (fun W (hb : Below w.heap.size w W) (m : Nat) (h1 : 1 ≤ m) (h2 : m ≤ 100) => depth_any m x a cap W h1 h2 (hx.under hb))
  have K0 := Lib.hid (Keeps.new (Below.refl w.heap.size w) (Nat.le_refl _) 35 #[.int .i64 x.op, .int .i64 x.n, .slice a x.kids.length cap])
  have c0 := K0.out.blk.cell 0
  have c1 := K0.out.blk.cell 1
  have c2 := K0.out.blk.cell 2
  have K1 := Lib.hid (by have h := KD.out _ K0.out.bel 17 (by decide) (by decide); rw [show ((17 : Nat) : Int) = 17 from rfl] at h; exact h)
  clear hx KD
  go_enter Try.func34, Try.ntmps34
  go_wp2_with fail
  clear c0 c1 c2
  refine K1.out.mono ?_
  rintro e w2 ⟨d, rfl, h1, h2, b2⟩
  have B2 := Lib.hid (K0.out.below b2)
  clear b2 K0 K1
  go_wp2_with fail
  go_ret
  exact ⟨d, rfl, B2.out.bel⟩
set_option maxRecDepth 100000 in
set_option maxHeartbeats 4000000 in
theorem lightB_any (bs : List BlkL) (a : Option Addr) (cap : Nat) (pl : Nat → Place) (w : World) (h : BlksAt w bs a cap pl) :
    Calls Try.prog 12 #[.slice a bs.length cap] w fun e w' => ∃ r : Bool, e = .returned (.bool r) ∧ Below w.heap.size w w' := by
  have H := Lib.hid h
  have hmost := h.most
  have BW := Lib.hid (Below.refl w.heap.size w)
  clear h
  go_enter Try.func12, Try.ntmps12
  go_wp2_with fail
  go_loopw [3] (fun s3 wr => ∃ i : Nat, i ≤ bs.length ∧ i ≤ 30 ∧ s3 = .int .i64 i ∧ Below w.heap.size w wr) (fun s _ => 30 - (intOf s).toNat)
  case atStart => exact ⟨0, by omega, by omega, rfl, BW.out⟩
  case round =>
    obtain ⟨i, hi, hi3, rfl, hb⟩ := hrel
    have B1 := Lib.hid hb
    clear hb BW
    have i0 : (0 : Int) ≤ (i : Int) := by omega
    by_cases hlt : i < bs.length
    · have d1 : decide (i < bs.length) = true := decide_eq_true hlt
      have d1' : decide ((i : Int) < (bs.length : Int)) = true := decide_eq_true (by omega)
      have i1 : (i : Int) < (bs.length : Int) := by omega
      by_cases h30 : i < 30
      · have d2 : decide (i < 30) = true := decide_eq_true h30
        have d2' : decide ((i : Int) < 30) = true := decide_eq_true (by omega)
        have hbi : bs[i]? = some bs[i] := List.getElem?_eq_getElem hlt
        generalize bs[i] = b at hbi
        obtain ⟨_, sb, so, rfl, hsb, hcc⟩ := H.out.tab i hlt
        rw [blksC_at hbi] at hcc
        have hcell : ∀ W, Below w.heap.size w W → ∀ j v, (blkC b (pl i))[j]? = some v → W.cell? ⟨sb, so + i * 11 + j, none⟩ = some v := fun W hW j v hv => by
          rw [hW.cell (p := ⟨sb, so + i * 11 + j, none⟩) hsb, hcc j (by have := (List.getElem?_eq_some_iff.1 hv).1; simpa [blkC] using this)]
          exact hv
        have HC := Lib.hid hcell
        have hbo := H.out.blk i b hbi
        have KX := Lib.hid (fun W (hb : Below w.heap.size w W) => Depth_any b.x _ _ W (hbo.x.under hb))
        have KL := Lib.hid (fun W (hb : Below w.heap.size w W) => Depth_any b.left _ _ W (hbo.left.under hb))
        have HW := Lib.hid hbo.words
        have hwm := hbo.words.most
        have c3 := HC.out _ B1.out 3 (.slice (pl i).words b.words.length (pl i).cap) rfl
        have c7 := HC.out _ B1.out 7 (.int .i64 b.x.op) rfl
        have c8 := HC.out _ B1.out 8 (.int .i64 b.x.n) rfl
        have c9 := HC.out _ B1.out 9 (.slice (pl i).x.a b.x.kids.length (pl i).x.cap) rfl
        clear hcell hbo hbi hcc hsb
        by_cases hw30 : 30 < b.words.length
        · have d3 : decide (30 < b.words.length) = true := decide_eq_true hw30
          have d3' : decide (30 < (b.words.length : Int)) = true := decide_eq_true (by omega)
          go_wp2_with fail
          go_ret
          exact ⟨false, rfl, B1.out⟩
        have d3 : decide (30 < b.words.length) = false := decide_eq_false hw30
        have d3' : decide (30 < (b.words.length : Int)) = false := decide_eq_false (by omega)
        go_wp2_with fail
        clear c3 c7 c8 c9
        refine (KX.out _ B1.out).mono ?_
        rintro e w2 ⟨d, rfl, b2⟩
        have B2 := Lib.hid (belowMore B1.out b2)
        have c4 := HC.out _ B2.out 4 (.int .i64 b.left.op) rfl
        have c5 := HC.out _ B2.out 5 (.int .i64 b.left.n) rfl
        have c6 := HC.out _ B2.out 6 (.slice (pl i).left.a b.left.kids.length (pl i).left.cap) rfl
        clear b2
        by_cases hd : 6 < d
        · have d4 : decide (6 < d) = true := decide_eq_true hd
          have d4' : decide (6 < (d : Int)) = true := decide_eq_true (by omega)
          go_wp2_with fail
          go_ret
          exact ⟨false, rfl, B2.out⟩
        have d4 : decide (6 < d) = false := decide_eq_false hd
        have d4' : decide (6 < (d : Int)) = false := decide_eq_false (by omega)
        go_wp2_with fail
        clear c4 c5 c6
        refine (KL.out _ B2.out).mono ?_
        rintro e w3 ⟨d5, rfl, b3⟩
        have B3 := Lib.hid (belowMore B2.out b3)
        clear b3
        by_cases hd5 : 6 < d5
        · have d6 : decide (6 < d5) = true := decide_eq_true hd5
          have d6' : decide (6 < (d5 : Int)) = true := decide_eq_true (by omega)
          go_wp2_with fail
          go_ret
          exact ⟨false, rfl, B3.out⟩
        have d6 : decide (6 < d5) = false := decide_eq_false hd5
        have d6' : decide (6 < (d5 : Int)) = false := decide_eq_false (by omega)
        go_wp2_with fail
        clear d4 d4' d6 d6'
        go_loopw [4] (fun s4 wr => ∃ k : Nat, k ≤ b.words.length ∧ s4 = .int .i64 k ∧ Below w.heap.size w wr) (fun s _ => b.words.length - (intOf s).toNat)
        case atStart => exact ⟨0, by omega, rfl, B3.out⟩
        case round =>
          obtain ⟨k, hk, rfl, hb⟩ := hrel
          rename World => W8
          have B4 := Lib.hid hb
          clear hb B3 B2
          have k0 : (0 : Int) ≤ (k : Int) := by omega
          have c3 := HC.out _ B4.out 3 (.slice (pl i).words b.words.length (pl i).cap) rfl
          by_cases hkt : k < b.words.length
          · have d7 : decide (k < b.words.length) = true := decide_eq_true hkt
            have k1 : (k : Int) < (b.words.length : Int) := by omega
            have hx : b.words[k]? = some b.words[k] := List.getElem?_eq_getElem hkt
            generalize b.words[k] = x at hx
            obtain ⟨wb, wo, ew, hwb, hwc⟩ := HW.out.num k x hx
            have p1 := (B4.out.cell (p := ⟨wb, wo + k * 4 + 1, none⟩) hwb).trans (hwc 1 (.int .i64 x.x.op) rfl)
            have p2 := (B4.out.cell (p := ⟨wb, wo + k * 4 + 2, none⟩) hwb).trans (hwc 2 (.int .i64 x.x.n) rfl)
            have p3 := (B4.out.cell (p := ⟨wb, wo + k * 4 + 3, none⟩) hwb).trans (hwc 3 (.slice ((pl i).k k).a x.x.kids.length ((pl i).k k).cap) rfl)
            have KW := Lib.hid (Depth_any x.x _ _ W8 ((HW.out.tree k x hx).under B4.out))
            rw [ew] at c3
            clear hx hwb hwc ew
            go_wp2_with fail
            clear p1 p2 p3 c3
            refine KW.out.mono ?_
            rintro e w5 ⟨d8, rfl, b5⟩
            have B5 := Lib.hid (belowMore B4.out b5)
            clear b5 KW
            by_cases hd8 : 6 < d8
            · have d9 : decide (6 < d8) = true := decide_eq_true hd8
              have d9' : decide (6 < (d8 : Int)) = true := decide_eq_true (by omega)
              go_wp2_with fail
              go_ret
              exact ⟨false, rfl, B5.out⟩
            have d9 : decide (6 < d8) = false := decide_eq_false hd8
            have d9' : decide (6 < (d8 : Int)) = false := decide_eq_false (by omega)
            go_wp2_with fail
            go_roundw
            case rel => exact ⟨k + 1, by omega, by go_num, B5.out⟩
            case measure => simp [intOf]; omega
          · have d7 : decide (k < b.words.length) = false := decide_eq_false hkt
            have d7' : decide ((k : Int) < (b.words.length : Int)) = false := decide_eq_false (by omega)
            go_wp2_with fail
            go_roundw
            case rel => exact ⟨i + 1, by omega, by omega, by go_num, B4.out⟩
            case measure => simp [intOf]; omega
      · have d2 : decide (i < 30) = false := decide_eq_false h30
        have d2' : decide ((i : Int) < 30) = false := decide_eq_false (by omega)
        go_wp2_with fail
        go_ret
        exact ⟨_, rfl, B1.out⟩
    · have d1 : decide (i < bs.length) = false := decide_eq_false hlt
      have d1' : decide ((i : Int) < (bs.length : Int)) = false := decide_eq_false (by omega)
      go_wp2_with fail
      go_ret
      exact ⟨_, rfl, B1.out⟩
set_option maxRecDepth 100000 in
set_option maxHeartbeats 4000000 in
theorem build_walk (bs : List BlkL) (a0 : Option Addr) (cap0 : Nat) (pl : Nat → Place) (a1 : Option Addr) (len1 cap1 : Nat) (z1 : List Int) (w : World) (w0 : BlksAt w bs a0 cap0 pl) (w1 : IsRow .i64 w a1 len1 cap1 z1) :
    Calls Try.prog 3 #[.slice a0 bs.length cap0, .slice a1 len1 cap1] w fun e w' => e = .returned (.bool true) ∧ Below w.heap.size w w' := by
  obtain ⟨T, hT⟩ : ∃ T : Tp, T = ⟨len1, fun i => z1.getD i 0⟩ := ⟨_, rfl⟩
  have HT := Lib.hid hT
  have KL := Lib.hid (fun W => light_any W a1 len1 cap1)
  have KA := Lib.hid awake_true
  have KB := Lib.hid (lightB_any bs a0 cap0 pl w w0)
  have W0 := Lib.hid w0
  have W1 := Lib.hid w1
  clear w0 w1 hT
  go_enter Try.func3, Try.ntmps3
  go_wp2_with fail
  refine KB.out.mono ?_
  rintro e w2 ⟨r, rfl, b2⟩
  have B2 := Lib.hid b2
  clear b2 KB
  by_cases hr : r = false
  · subst hr
    go_wp2_with fail
    refine (KA.out _).mono ?_
    rintro e w3 ⟨rfl, b9⟩
    have B3 := Lib.hid (belowMore B2.out b9)
    clear b9
    go_wp2_with fail
    go_ret
    exact ⟨rfl, B3.out⟩
  obtain rfl : r = true := by simpa using hr
  go_wp2_with fail
  refine (KL.out _).mono ?_
  rintro e w' ⟨rfl, rfl⟩
  by_cases hlen : 120 < len1
  · have dl : decide (len1 ≤ 120) = false := decide_eq_false (by omega)
    go_wp2_with fail
    refine (KA.out _).mono ?_
    rintro e w3 ⟨rfl, b9⟩
    have B3 := Lib.hid (belowMore B2.out b9)
    clear b9
    go_wp2_with fail
    go_ret
    exact ⟨rfl, B3.out⟩
  have dl : decide (len1 ≤ 120) = true := decide_eq_true (by omega)
  have HLEN := Lib.hid hlen
  clear hlen hr KL
  go_wp2_with fail
  refine (KA.out _).mono ?_
  rintro e w3 ⟨rfl, b9⟩
  have B3 := Lib.hid (belowMore B2.out b9)
  clear b9
  go_wp2_with fail
  refine (built_any _ _ _ _ _ (W0.out.under B3.out)).mono ?_
  rintro e w4 ⟨rfl, b9⟩
  have B4 := Lib.hid (belowMore B3.out b9)
  clear b9
  go_wp2_with fail
  refine (tape_new _ a1 len1 cap1 z1 (W1.out.below B4.out) (by have := HLEN.out; omega)).mono ?_
  rintro e w5 ⟨rfl, hs, b1⟩
  rw [← HT.out] at hs
  have bw := B4.out.size
  have HS5 := Lib.hid hs
  have HC5 := Lib.hid b1
  have HB5 := Lib.hid (belowMore B4.out b1)
  clear hs b1
  go_wp2_with fail
  refine (random_any w5 _ _ _ _ _ HS5.out).mono ?_
  rintro e w6 ⟨fa, fc, fp, rfl, hbs, kx, ht⟩
  have FB := Lib.hid hbs.at
  have B6 := Lib.hid (ht.below HB5.out bw)
  clear hbs ht HS5 HB5 HC5 bw
  go_wp2_with fail
  refine (built_any _ _ _ _ _ FB.out).mono ?_
  rintro e w7 ⟨rfl, b9⟩
  have B7 := Lib.hid (belowMore B6.out b9)
  clear b9
  go_wp2_with fail
  refine (tape_new _ a1 len1 cap1 z1 (W1.out.below B7.out) (by have := HLEN.out; omega)).mono ?_
  rintro e w8 ⟨rfl, hs, b1⟩
  rw [← HT.out] at hs
  have bw := B7.out.size
  have HS8 := Lib.hid hs
  have HC8 := Lib.hid b1
  have HB8 := Lib.hid (belowMore B7.out b1)
  clear hs b1
  go_wp2_with fail
  refine (flow_any w8 _ _ _ _ _ HS8.out).mono ?_
  rintro e w9 ⟨ga, gc, gp, rfl, hbs, ky, ht⟩
  have GB := Lib.hid hbs.at
  have B9 := Lib.hid (ht.below HB8.out bw)
  clear hbs ht HS8 HB8 HC8 bw
  go_wp2_with fail
  refine (built_any _ _ _ _ _ GB.out).mono ?_
  rintro e w10 ⟨rfl, b9⟩
  have B10 := Lib.hid (belowMore B9.out b9)
  clear b9
  go_wp2_with fail
  go_ret
  exact ⟨rfl, B10.out⟩
end Go.Proofs.Yteiogjgmedikhaa
