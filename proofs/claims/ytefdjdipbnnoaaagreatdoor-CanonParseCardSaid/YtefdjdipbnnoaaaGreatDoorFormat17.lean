/-
  canon.Format: the text of a list. Any list of at most 4000 items.
-/
import Derived.Test.YtefdjdipbnnoaaaGreatDoorEnv17
import Derived.Test.YtefdjdipbnnoaaaGreatDoorNumsG17
import Derived.Test.YtefdjdipbnnoaaaGreatDoorCheck17
namespace Go.Proofs.YtefdjdipbnnoaaaGreatDoor
open Go Go.RowKit
set_option linter.unusedVariables false
set_option linter.unusedSimpArgs false

theorem places_cells {W : World} {base G c g : Nat} (h : W.ownsRow base 78 2 (.slice (some ⟨G, 0, none⟩) 21 c) 21 (placesC g)) : ∃ cur : Array Value, Blk W G 78 cur ∧ base ≤ G ∧ ∀ (j : Nat) (u : Value), (placesC g)[j]? = some u → cur[j]? = some u := by
  rcases h.2 with ⟨e, _⟩ | ⟨g', cap, cur, e, hb, hh, _, _, _, ht⟩
  · cases e
  · injection e with e1 e2 e3
    injection e1 with e1
    injection e1 with e1
    subst e1
    refine ⟨cur, hh, hb, fun j u hu => ?_⟩
    rw [← ht] at hu
    have hlt : j < 21 * 2 := by
      have := (List.getElem?_eq_some_iff.1 hu).1
      simp at this
      omega
    rw [List.getElem?_take_of_lt hlt] at hu
    simpa using hu
theorem own_grown2 {W W' : World} {base n size : Nat} {t : TypeId} {v : Value} {xs : List Value} (h : W.ownsRow base t size v n xs) (hg : W.grownBy W' none) : W'.ownsRow base t size v n xs := own_grown h hg (by intro k hk; cases hk)
theorem place_at (x : It) (g j : Nat) (hj : j < 21) :
    (∃ k n, (placesC g)[j * 2]? = some (.pointer (some ⟨g, k, none⟩)) ∧ (placesC g)[j * 2 + 1]? = some (.pointer none) ∧ (itA x)[k]? = some (.int .i64 n) ∧ (numsI x)[j]? = some n) ∨
    (∃ k b, (placesC g)[j * 2]? = some (.pointer none) ∧ (placesC g)[j * 2 + 1]? = some (.pointer (some ⟨g, k, none⟩)) ∧ (itA x)[k]? = some (.bool b) ∧ (numsI x)[j]? = some (b2i b)) := by
  match j, hj with
  | 0, _ => exact .inl ⟨1, x.block, rfl, rfl, rfl, rfl⟩
  | 1, _ => exact .inl ⟨2, x.fx, rfl, rfl, rfl, rfl⟩
  | 2, _ => exact .inl ⟨3, x.fy, rfl, rfl, rfl, rfl⟩
  | 3, _ => exact .inl ⟨4, x.fz, rfl, rfl, rfl, rfl⟩
  | 4, _ => exact .inl ⟨5, x.tx, rfl, rfl, rfl, rfl⟩
  | 5, _ => exact .inl ⟨6, x.ty, rfl, rfl, rfl, rfl⟩
  | 6, _ => exact .inl ⟨7, x.tz, rfl, rfl, rfl, rfl⟩
  | 7, _ => exact .inl ⟨8, x.plane, rfl, rfl, rfl, rfl⟩
  | 8, _ => exact .inl ⟨9, x.cx, rfl, rfl, rfl, rfl⟩
  | 9, _ => exact .inl ⟨10, x.cy, rfl, rfl, rfl, rfl⟩
  | 10, _ => exact .inl ⟨11, x.cz, rfl, rfl, rfl, rfl⟩
  | 11, _ => exact .inl ⟨12, x.dir, rfl, rfl, rfl, rfl⟩
  | 12, _ => exact .inr ⟨13, x.full, rfl, rfl, rfl, rfl⟩
  | 13, _ => exact .inl ⟨14, x.feed, rfl, rfl, rfl, rfl⟩
  | 14, _ => exact .inr ⟨15, x.perRev, rfl, rfl, rfl, rfl⟩
  | 15, _ => exact .inl ⟨16, x.side, rfl, rfl, rfl, rfl⟩
  | 16, _ => exact .inl ⟨17, x.radius, rfl, rfl, rfl, rfl⟩
  | 17, _ => exact .inl ⟨18, x.blend, rfl, rfl, rfl, rfl⟩
  | 18, _ => exact .inl ⟨19, x.n, rfl, rfl, rfl, rfl⟩
  | 19, _ => exact .inl ⟨20, x.speed, rfl, rfl, rfl, rfl⟩
  | 20, _ => exact .inr ⟨21, x.on, rfl, rfl, rfl, rfl⟩
  | n + 21, h => exact absurd h (by omega)
theorem own_u8 {W : World} {base n : Nat} {v : Value} {xs : List Value} {b : Nat} (h : W.ownsRow base 5 1 v n xs) (e : v.ownBlock = some b) : ∃ cs, W.heap[b]? = some (.cells cs 5 (0, 0)) := by
  rcases h.2 with ⟨rfl, _⟩ | ⟨g, cap, cur, rfl, _, hh, _⟩
  · cases e
  · injection e with e
    subst e
    exact ⟨cur, hh⟩
theorem kept_bytes {W W2 W4 : World} {base n b : Nat} {v : Value} {xs : List Value} {t : TypeId} {cs : Array Value} (hB : Blk W b t cs) (ht : t ≠ 5) (ho : W.ownsRow base 5 1 v n xs) (hB2 : Blk W2 b t cs) (hg : W2.grownBy W4 v.ownBlock) : Blk W4 b t cs :=
  hB2.grown hg (fun e => by
    obtain ⟨cs2, hb2⟩ := own_u8 ho e.symm
    have := hB.symm.trans hb2
    injection this with this
    injection this with _ this
    exact ht this)
attribute [local go_sem] itA_0 itA_1 itA_2 itA_3 itA_4 itA_5 itA_6 itA_7 itA_8 itA_9 itA_10 itA_11 itA_12 itA_13 itA_14 itA_15 itA_16 itA_17 itA_18 itA_19 itA_20 itA_21
set_option maxRecDepth 100000 in
set_option maxHeartbeats 8000000 in
theorem format_any (a : Option Addr) (c : Nat) (l : List It) (w : World) (h : ItsAt w a l) (hn : l.length ≤ 4000) (hE : Env w) :
    Calls Tryz.prog 22 #[.slice a l.length c] w fun e w' => e = .returned (.string (mkB (formatI l))) ∧ Below w.heap.size w w' := by
  obtain ⟨n, hln⟩ : ∃ n, l.length = n := ⟨_, rfl⟩
  have HLN := Lib.hid hln
  have H0 := Lib.hid h
  have HE0 := Lib.hid hE
  have hlow := hE.low
  obtain ⟨R, hR⟩ : ∃ R, formatI l = R := ⟨_, rfl⟩
  have HR := Lib.hid hR
  rw [hln] at hn ⊢
  rw [hR]
  have HG := Lib.hid (fun k (hk : k < n) => (⟨l[k]'(by omega), List.getElem?_eq_getElem _⟩ : ∃ x, l[k]? = some x))
  clear h hln hE hR
  go_enter Tryz.func22, Tryz.ntmps22
  go_wp2_with fail
  go_loopw [3, 11] (fun s3 s11 wr => ∃ (k : Nat) (v3 : Value), k ≤ n ∧ v3 = s3 ∧ s11 = .int .i64 k ∧ (∀ t ∈ l.take k, validI t = true) ∧ wr.ownsRow w.heap.size 5 1 v3 (fmtIs (l.take k)).length (Lib.byteCells (fmtIs (l.take k))) ∧ Below w.heap.size w wr)
    (fun _ s11 _ => n - (intOf s11).toNat)
  case atStart => exact ⟨0, _, by omega, rfl, rfl, by simp, World.ownsRow_nil _ _ _ _, Below.refl _ _⟩
  case round =>
    obtain ⟨k, v3, hk, rfl, rfl, hval, hown, bel⟩ := hrel
    have hsz := bel.size
    by_cases hlt : k < n
    · obtain ⟨x, hx⟩ := HG.out k hlt
      have e1 : decide (k < n) = true := decide_eq_true hlt
      obtain ⟨b, o, rfl, _, hc⟩ := H0.out.below bel k x hx
      have HCX := Lib.hid hc
      have HX := Lib.hid hx
      have HVAL := Lib.hid hval
      have i1 : (0 : Int) ≤ (k : Int) := by omega
      have i2 : (k : Int) < (n : Int) := by omega
      obtain ⟨H, hH⟩ : ∃ H, wr.heap.size = H := ⟨_, rfl⟩
      obtain ⟨W5, hW5⟩ : ∃ W, (wr.alloc (.cells (itA zeroI) 25)).setRow wr.heap.size (itA x) = W := ⟨_, rfl⟩
      have A5 : ItAt W5 wr.heap.size x := by rw [← hW5]; exact ItAt.row (ItAt.new wr zeroI) _
      have O5 : W5.ownsRow w.heap.size 5 1 v3 (fmtIs (l.take k)).length (Lib.byteCells (fmtIs (l.take k))) := by
        rw [← hW5]
        exact own_grown2 hown (grown_setRow (grown_alloc (grown_refl _ none) _) (.inr (Nat.le_refl _)) _)
      have B5 : Below w.heap.size w W5 := by rw [← hW5]; exact below_row (bel.alloc (by omega) _) (by omega) _
      have lt5 := A5.lt
      have A5 := Lib.hid A5
      have O5 := Lib.hid O5
      have B5 := Lib.hid B5
      clear hown bel hc hx hval
      go_upto_region 5 with (first
        | ((with_reducible refine go_loadM (.tmp 13) b (o + k * 22) x (by with_unfolding_all rfl) HCX.out ?_))
        | ((with_reducible refine go_allocI ?_))
        | ((with_reducible refine go_storeI (.tmp 5) (.tmp 14) wr.heap.size x zeroI (by with_unfolding_all rfl) (by with_unfolding_all rfl) (ItAt.new _ _) ?_)))
      rw [hW5]
      clear hW5
      have KV := Lib.hid (fun W => cvalid_any x W)
      obtain ⟨vl, hvl⟩ : ∃ b, validI x = b := ⟨_, rfl⟩
      rw [hvl] at KV
      have HVL := Lib.hid hvl
      clear hvl
      go_wp2_with ((with_reducible refine go_loadI (.tmp 5) wr.heap.size x (by with_unfolding_all rfl) A5.out ?_))
      refine (KV.out _).mono ?_
      rintro e w6 ⟨rfl, b6⟩
      have A6 : ItAt w6 wr.heap.size x := A5.out.below b6
      have O6 := own_grown2 O5.out (grown_of_below b6)
      have B6 : Below w.heap.size w w6 := B5.out.trans (b6.mono B5.out.size)
      have lt6 := A6.lt
      clear A5 O5 B5 b6
      have hszH : w.heap.size ≤ H := by omega
      try rw [hH] at A6
      try rw [hH] at lt6
      try rw [hH] at lt5
      try rw [hH]
      clear hH
      have A6 := Lib.hid A6
      have O6 := Lib.hid O6
      have B6 := Lib.hid B6
      cases vl
      · have RE : R = [] := by
          rw [← HR.out]
          unfold formatI
          rw [if_neg]
          intro hall
          have := List.all_eq_true.1 hall x (List.mem_of_getElem? HX.out)
          rw [HVL.out] at this
          cases this
        go_wp2_with fail
        go_ret
        exact ⟨by rw [RE]; rfl, B6.out⟩
      have hkd := validI_kind HVL.out
      obtain ⟨kd, hkd2⟩ : ∃ kd : Nat, x.kind = (kd : Int) := ⟨x.kind.toNat, by omega⟩
      have HNR := Lib.hid (nums_rd HVL.out)
      have c0 := A6.out.c0
      rw [hkd2] at c0 hkd
      have E6 := HE0.out.below B6.out hlow
      have cn := E6.names.cell kd (by omega)
      obtain ⟨KN, hKN⟩ : ∃ KN, kname kd = KN := ⟨_, rfl⟩
      rw [hKN] at cn
      have hKl : KN.length ≤ 8 := by rw [← hKN]; exact kname_len kd
      have HKN := Lib.hid (show kname x.kind.toNat = KN by rw [← hKN, hkd2]; rfl)
      obtain ⟨T, hT⟩ : ∃ T, fmtIs (l.take k) = T := ⟨_, rfl⟩
      have hTl : T.length ≤ 880000 := by
        rw [← hT]
        have := fmtIs_len (l := l.take k) fun t ht => HVAL.out t ht
        rw [List.length_take] at this
        omega
      have HTE := Lib.hid hT
      rw [hT] at O6
      have ik1 : (0 : Int) ≤ (kd : Int) := by omega
      have ik2 : (kd : Int) < 15 := by omega
      have ik3 : kd < 15 := by omega
      clear E6 hT hKN hkd2 hkd
      go_wp2_with (first
        | ((with_reducible refine go_strapp (.tmp 18) (.tmp 22) T KN (by with_unfolding_all rfl) O6.out (by with_unfolding_all rfl) (by omega) (by omega) (by omega) ?_); intro v7 w7 hown7 hgrow; have A7 := Lib.hid (show ItAt w7 H x from Blk.grown A6.out hgrow (fun e => by obtain ⟨cs2, hb2⟩ := own_u8 O6.out e.symm; have := A6.out.symm.trans hb2; injection this with this; injection this with _ this; exact absurd this (by decide))); have B7 := Lib.hid (B6.out.trans (below_of_grown hgrow (by have := B6.out.size; omega) (fun b e => (O6.out.lt b e).1))); have O7 := Lib.hid hown7; clear hown7 hgrow))
      refine (places_any H x w7 A7.out).mono ?_
      rintro e w8 ⟨G, c8, rfl, own8, b8⟩
      obtain ⟨cur, C8, hGb, hcur⟩ := places_cells own8
      have A8 := Lib.hid (A7.out.below b8)
      have O8 := Lib.hid (own_grown2 O7.out (grown_of_below b8))
      have B8 := Lib.hid (B7.out.trans (b8.mono B7.out.size))
      have HCUR := Lib.hid hcur
      have C8 := Lib.hid C8
      clear own8 b8 hcur A7 O7 B7 A6 O6 B6 c0 cn
      go_wp2_with fail
      go_loopw [3, 26] (fun s3 s26 wr => ∃ (j : Nat) (v4 : Value), j ≤ 21 ∧ s26 = .int .i64 j ∧ v4 = s3 ∧ wr.ownsRow w.heap.size 5 1 v4 (T ++ KN ++ preN ((numsI x).take j)).length (Lib.byteCells (T ++ KN ++ preN ((numsI x).take j))) ∧ Env wr ∧ Below w.heap.size w wr ∧ ItAt wr H x ∧ Blk wr G 78 cur)
        (fun _ s26 _ => 21 - (intOf s26).toNat)
      case atStart => exact ⟨0, _, by omega, rfl, rfl, by have := O8.out; simpa [preN] using this, HE0.out.below B8.out hlow, B8.out, A8.out, C8.out⟩
      case round =>
        obtain ⟨j, v4, hj, rfl, rfl, hown, hE, bel, hA, hC⟩ := hrel
        have hszr := bel.size
        have lH := hA.lt
        have lG := hC.lt
        have BEL := Lib.hid bel
        have HE := Lib.hid hE
        have HOWN := Lib.hid hown
        have HA := Lib.hid hA
        have HC := Lib.hid hC
        clear bel hE hown hA hC
        by_cases hj21 : j < 21
        · have dj : decide (j < 21) = true := decide_eq_true hj21
          have dj' : decide ((j : Int) < 21) = true := decide_eq_true (by omega)
          have ij1 : (0 : Int) ≤ (j : Int) := by omega
          have ij2 : (j : Int) < 21 := by omega
          rcases place_at x H j hj21 with ⟨kc, nv, p1, p2, p3, hn⟩ | ⟨kc, bv, p1, p2, p3, hn⟩
          · have g0 : wr.cell? ⟨G, j * 2, none⟩ = some (.pointer (some ⟨H, kc, none⟩)) := HC.out.cell' _ (HCUR.out _ _ p1)
            have g1 : wr.cell? ⟨G, j * 2 + 1, none⟩ = some (.pointer none) := HC.out.cell' _ (HCUR.out _ _ p2)
            have gk : wr.cell? ⟨H, kc, none⟩ = some (.int .i64 nv) := Blk.cell' HA.out _ p3
            have HNJ := Lib.hid hn
            clear p1 p2 p3 hn
            have hlen : (T ++ KN ++ preN ((numsI x).take j)).length ≤ 900000 := by
              have h2 : (preN ((numsI x).take j)).length ≤ 10 * ((numsI x).take j).length := preN_len fun n hn => HNR.out n (List.mem_of_mem_take hn)
              have h3 : (numsI x).length = 21 := rfl
              rw [List.length_take] at h2
              simp only [List.length_append]
              omega
            go_wp2_with (first
              | ((with_reducible refine go_byapp (.tmp 43) (.tmp 44) (T ++ KN ++ preN ((numsI x).take j)) 32 (wr.heap.size + 1) (by with_unfolding_all rfl) (((HOWN.out.alloc (.cells #[.pointer (some ⟨H, kc, none⟩), .pointer none] 78)).alloc (.cells #[.int .u8 32] 5))) (by with_unfolding_all rfl) (by with_unfolding_all exact blk_new1 wr (.cells #[.pointer (some ⟨H, kc, none⟩), .pointer none] 78) _ _) (by omega) (by simp; omega) ?_); intro v4 w4 hown4 hgrow; have FF := Lib.hid (And.intro hown4 hgrow); clear hown4 hgrow))
            have bel4 : Below w.heap.size w w4 := ((BEL.out.alloc (by omega) _).alloc (by simp; omega) _).trans (below_of_grown FF.out.2 (by simp; omega) (fun k e => ((HOWN.out).lt k e).1))
            have HA4 := Lib.hid (show ItAt w4 H x from kept_bytes HA.out (by decide) HOWN.out ((Blk.alloc HA.out _).alloc _) FF.out.2)
            have HC4 := Lib.hid (kept_bytes HC.out (by decide) HOWN.out ((Blk.alloc HC.out _).alloc _) FF.out.2)
            have FF := Lib.hid (And.intro FF.out.1 bel4)
            clear bel4
            have HE4 := Lib.hid (HE0.out.below FF.out.2 hlow)
            have szw4 := FF.out.2.size
            have KI := Lib.hid (appInt_run w.heap.size nv (by obtain ⟨q1, q2⟩ := HNR.out _ (List.mem_of_getElem? HNJ.out); omega) _ _ w4 FF.out.1 szw4 hlow (by rw [List.length_append]; have : ([32] : List UInt8).length = 1 := rfl; omega) HE4.out)
            refine KI.out.mono ?_
            rintro e w5 ⟨v5, rfl, hown5, b5, k5⟩
            have BEL5 := Lib.hid (FF.out.2.trans b5)
            have HE5 := Lib.hid (HE4.out.below b5 hlow)
            have HOWN5 := Lib.hid hown5
            have HA5 := Lib.hid (show ItAt w5 H x from k5 _ _ _ (by decide) HA4.out)
            have HC5 := Lib.hid (k5 _ _ _ (by decide) HC4.out)
            clear hown5 b5 KI FF k5
            go_wp2_with fail
            go_roundw
            case rel => exact ⟨j + 1, v5, by omega, by go_num, rfl, by
              have h1 := HOWN5.out
              have e : T ++ KN ++ preN ((numsI x).take j) ++ [32] ++ Lib.itoa (nv) = T ++ KN ++ preN ((numsI x).take (j + 1)) := by
                rw [take_snoc HNJ.out, preN_snoc]
                simp
              rw [e] at h1
              exact h1, HE5.out, BEL5.out, HA5.out, HC5.out⟩
            case measure => simp [intOf]; omega
          · have g0 : wr.cell? ⟨G, j * 2, none⟩ = some (.pointer none) := HC.out.cell' _ (HCUR.out _ _ p1)
            have g1 : wr.cell? ⟨G, j * 2 + 1, none⟩ = some (.pointer (some ⟨H, kc, none⟩)) := HC.out.cell' _ (HCUR.out _ _ p2)
            have gk : wr.cell? ⟨H, kc, none⟩ = some (.bool bv) := Blk.cell' HA.out _ p3
            cases bv
            · have HNJ := Lib.hid (show (numsI x)[j]? = some 0 from hn)
              clear p1 p2 p3 hn
              have hlen : (T ++ KN ++ preN ((numsI x).take j)).length ≤ 900000 := by
                have h2 : (preN ((numsI x).take j)).length ≤ 10 * ((numsI x).take j).length := preN_len fun n hn => HNR.out n (List.mem_of_mem_take hn)
                have h3 : (numsI x).length = 21 := rfl
                rw [List.length_take] at h2
                simp only [List.length_append]
                omega
              go_wp2_with (first
                | ((with_reducible refine go_byapp (.tmp 43) (.tmp 44) (T ++ KN ++ preN ((numsI x).take j)) 32 (wr.heap.size + 1) (by with_unfolding_all rfl) (((HOWN.out.alloc (.cells #[.pointer none, .pointer (some ⟨H, kc, none⟩)] 78)).alloc (.cells #[.int .u8 32] 5))) (by with_unfolding_all rfl) (by with_unfolding_all exact blk_new1 wr (.cells #[.pointer none, .pointer (some ⟨H, kc, none⟩)] 78) _ _) (by omega) (by simp; omega) ?_); intro v4 w4 hown4 hgrow; have FF := Lib.hid (And.intro hown4 hgrow); clear hown4 hgrow))
              have bel4 : Below w.heap.size w w4 := ((BEL.out.alloc (by omega) _).alloc (by simp; omega) _).trans (below_of_grown FF.out.2 (by simp; omega) (fun k e => ((HOWN.out).lt k e).1))
              have HA4 := Lib.hid (show ItAt w4 H x from kept_bytes HA.out (by decide) HOWN.out ((Blk.alloc HA.out _).alloc _) FF.out.2)
              have HC4 := Lib.hid (kept_bytes HC.out (by decide) HOWN.out ((Blk.alloc HC.out _).alloc _) FF.out.2)
              have FF := Lib.hid (And.intro FF.out.1 bel4)
              clear bel4
              have HE4 := Lib.hid (HE0.out.below FF.out.2 hlow)
              have szw4 := FF.out.2.size
              have KI := Lib.hid (appInt_run w.heap.size 0 (by obtain ⟨q1, q2⟩ := HNR.out _ (List.mem_of_getElem? HNJ.out); omega) _ _ w4 FF.out.1 szw4 hlow (by rw [List.length_append]; have : ([32] : List UInt8).length = 1 := rfl; omega) HE4.out)
              refine KI.out.mono ?_
              rintro e w5 ⟨v5, rfl, hown5, b5, k5⟩
              have BEL5 := Lib.hid (FF.out.2.trans b5)
              have HE5 := Lib.hid (HE4.out.below b5 hlow)
              have HOWN5 := Lib.hid hown5
              have HA5 := Lib.hid (show ItAt w5 H x from k5 _ _ _ (by decide) HA4.out)
              have HC5 := Lib.hid (k5 _ _ _ (by decide) HC4.out)
              clear hown5 b5 KI FF k5
              go_wp2_with fail
              go_roundw
              case rel => exact ⟨j + 1, v5, by omega, by go_num, rfl, by
                have h1 := HOWN5.out
                have e : T ++ KN ++ preN ((numsI x).take j) ++ [32] ++ Lib.itoa (0) = T ++ KN ++ preN ((numsI x).take (j + 1)) := by
                  rw [take_snoc HNJ.out, preN_snoc]
                  simp
                rw [e] at h1
                exact h1, HE5.out, BEL5.out, HA5.out, HC5.out⟩
              case measure => simp [intOf]; omega
            · have HNJ := Lib.hid (show (numsI x)[j]? = some 1 from hn)
              clear p1 p2 p3 hn
              have hlen : (T ++ KN ++ preN ((numsI x).take j)).length ≤ 900000 := by
                have h2 : (preN ((numsI x).take j)).length ≤ 10 * ((numsI x).take j).length := preN_len fun n hn => HNR.out n (List.mem_of_mem_take hn)
                have h3 : (numsI x).length = 21 := rfl
                rw [List.length_take] at h2
                simp only [List.length_append]
                omega
              go_wp2_with (first
                | ((with_reducible refine go_byapp (.tmp 43) (.tmp 44) (T ++ KN ++ preN ((numsI x).take j)) 32 (wr.heap.size + 1) (by with_unfolding_all rfl) (((HOWN.out.alloc (.cells #[.pointer none, .pointer (some ⟨H, kc, none⟩)] 78)).alloc (.cells #[.int .u8 32] 5))) (by with_unfolding_all rfl) (by with_unfolding_all exact blk_new1 wr (.cells #[.pointer none, .pointer (some ⟨H, kc, none⟩)] 78) _ _) (by omega) (by simp; omega) ?_); intro v4 w4 hown4 hgrow; have FF := Lib.hid (And.intro hown4 hgrow); clear hown4 hgrow))
              have bel4 : Below w.heap.size w w4 := ((BEL.out.alloc (by omega) _).alloc (by simp; omega) _).trans (below_of_grown FF.out.2 (by simp; omega) (fun k e => ((HOWN.out).lt k e).1))
              have HA4 := Lib.hid (show ItAt w4 H x from kept_bytes HA.out (by decide) HOWN.out ((Blk.alloc HA.out _).alloc _) FF.out.2)
              have HC4 := Lib.hid (kept_bytes HC.out (by decide) HOWN.out ((Blk.alloc HC.out _).alloc _) FF.out.2)
              have FF := Lib.hid (And.intro FF.out.1 bel4)
              clear bel4
              have HE4 := Lib.hid (HE0.out.below FF.out.2 hlow)
              have szw4 := FF.out.2.size
              have KI := Lib.hid (appInt_run w.heap.size 1 (by obtain ⟨q1, q2⟩ := HNR.out _ (List.mem_of_getElem? HNJ.out); omega) _ _ w4 FF.out.1 szw4 hlow (by rw [List.length_append]; have : ([32] : List UInt8).length = 1 := rfl; omega) HE4.out)
              refine KI.out.mono ?_
              rintro e w5 ⟨v5, rfl, hown5, b5, k5⟩
              have BEL5 := Lib.hid (FF.out.2.trans b5)
              have HE5 := Lib.hid (HE4.out.below b5 hlow)
              have HOWN5 := Lib.hid hown5
              have HA5 := Lib.hid (show ItAt w5 H x from k5 _ _ _ (by decide) HA4.out)
              have HC5 := Lib.hid (k5 _ _ _ (by decide) HC4.out)
              clear hown5 b5 KI FF k5
              go_wp2_with fail
              go_roundw
              case rel => exact ⟨j + 1, v5, by omega, by go_num, rfl, by
                have h1 := HOWN5.out
                have e : T ++ KN ++ preN ((numsI x).take j) ++ [32] ++ Lib.itoa (1) = T ++ KN ++ preN ((numsI x).take (j + 1)) := by
                  rw [take_snoc HNJ.out, preN_snoc]
                  simp
                rw [e] at h1
                exact h1, HE5.out, BEL5.out, HA5.out, HC5.out⟩
              case measure => simp [intOf]; omega
        · obtain rfl : j = 21 := by omega
          have hlen : (T ++ KN ++ preN ((numsI x).take 21)).length ≤ 900000 := by
            have h2 : (preN ((numsI x).take 21)).length ≤ 10 * ((numsI x).take 21).length := preN_len fun n hn => HNR.out n (List.mem_of_mem_take hn)
            have h3 : (numsI x).length = 21 := rfl
            rw [List.length_take] at h2
            simp only [List.length_append]
            omega
          go_wp2_with (first
            | ((with_reducible refine go_byapp (.tmp 49) (.tmp 50) (T ++ KN ++ preN ((numsI x).take 21)) 10 _ (by with_unfolding_all rfl) (HOWN.out.alloc _) (by with_unfolding_all rfl) (by with_unfolding_all exact Blk.new wr _ _) (by omega) (by simp; omega) ?_); intro v9 w9 hown9 hgrow; have bel9 : Below w.heap.size w w9 := (BEL.out.alloc (by omega) _).trans (below_of_grown hgrow (by simp; omega) (fun k e => ((HOWN.out).lt k e).1)); have FF := Lib.hid (And.intro hown9 bel9); clear hown9 bel9 hgrow))
          go_roundw
          case rel => exact ⟨k + 1, _, by omega, rfl, by go_num, fun t ht => by
            rw [take_snoc HX.out] at ht
            rcases List.mem_append.1 ht with ht | ht
            · exact HVAL.out t ht
            · simp at ht
              subst ht
              exact HVL.out, by
            have h1 := FF.out.1
            have e : T ++ KN ++ preN ((numsI x).take 21) ++ [10] = fmtIs (l.take (k + 1)) := by
              rw [take_snoc HX.out, fmtIs_snoc, HTE.out]
              unfold fmtI
              rw [HKN.out, List.take_of_length_le (by show 21 ≤ 21; omega)]
              simp
            rw [e] at h1
            exact h1, FF.out.2⟩
          case measure => simp [intOf]; omega
    · obtain rfl : k = n := by omega
      have e1 : decide (k < k) = false := by simp
      have ht : l.take k = l := List.take_of_length_le (by have := HLN.out; omega)
      rw [ht] at hown hval
      have RE : R = fmtIs l := by
        rw [← HR.out]
        unfold formatI
        rw [if_pos (List.all_eq_true.2 hval)]
      have hcv := conv_own hown
      have BEL := Lib.hid bel
      have RE := Lib.hid RE
      clear hown bel ht hval
      go_wp2_with fail
      go_ret
      exact ⟨by rw [RE.out]; rfl, BEL.out⟩
end Go.Proofs.YtefdjdipbnnoaaaGreatDoor
