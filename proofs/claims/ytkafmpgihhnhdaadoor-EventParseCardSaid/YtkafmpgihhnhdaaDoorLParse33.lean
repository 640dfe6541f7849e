/-
  EventParse returns true. Its arguments: any.
-/
import Derived.Test.YtkafmpgihhnhdaaDoorAwake33
import Derived.Test.YtkafmpgihhnhdaaDoorRFormat33
import Derived.Test.YtkafmpgihhnhdaaDoorRParse33
import Derived.Test.YtkafmpgihhnhdaaDoorSame33
import Derived.Test.YtkafmpgihhnhdaaDoorEvents33
import Derived.OpenShut
namespace Go.Proofs.YtkafmpgihhnhdaaDoor
open Go Go.RowKit
set_option linter.unusedVariables false

theorem parse_len (l : List UInt8) : (parseR l).1.length ≤ 2000 := by
  unfold parseR
  split
  · simp
  · split
    · simp
    · split
      · simp only; omega
      · simp
/-- The bytes of a string in new memory. -/
theorem conv_new (D : ByteArray) (W : World) : ∃ cap W', (convert 9 39 (.string D)).run Tryd.prog W = .ok (.slice (some ⟨W.heap.size, 0, none⟩) D.size cap) W' ∧
    (∀ i (h : i < (bl D).length), W'.cell? ⟨W.heap.size, i, none⟩ = some (.int .u8 ((bl D)[i].toNat : Int))) ∧ (∀ i, i < D.size → W'.frozen? ⟨W.heap.size, i, none⟩ = false) ∧ Below W.heap.size W W' ∧ W'.heap.size = W.heap.size + 1 := by
  refine ⟨_, _, run_bytes_of_string W 9 39 5 D Tryd.underlying9 Tryd.underlying39 Tryd.underlying5, fun i hi => ?_, fun i hi => ?_, (Below.refl _ _).drew.alloc (Nat.le_refl _) _, Array.size_push _⟩
  · rw [World.cell?, show (W.drew.alloc _).heap[W.heap.size]? = _ from heap_alloc_new W.drew _]
    simp only
    rw [bl_len] at hi
    have hx := bytesRow_at D (grownCap W D.size 0 5) i hi
    have e : ((bl D)[i]'(by rw [bl_len]; exact hi)) = D.data[i]'hi := rfl
    rw [e]
    simpa using hx
  · rw [World.frozen?, show (W.drew.alloc _).heap[W.heap.size]? = _ from heap_alloc_new W.drew _]
    have hz : D.size ≤ (bytesRow D (grownCap W D.size 0 5)).size := by
      have := (Array.getElem?_eq_some_iff.1 (bytesRow_at D (grownCap W D.size 0 5) (D.size - 1) (by show D.size - 1 < D.size; omega))).1
      omega
    simp
    omega
theorem two_at0 (a b : ByteArray) (W : World) : (Instr.index 40 (.agg #[.string a, .string b]) (.int .i64 0)).run Tryd.prog W = .ok (.string a) W := by kernel_rfl
theorem two_at1 (a b : ByteArray) (W : World) : (Instr.index 40 (.agg #[.string a, .string b]) (.int .i64 1)).run Tryd.prog W = .ok (.string b) W := by kernel_rfl
theorem bytes_back (W : World) (g cap : Nat) (l : List UInt8) (h : ∀ i (h : i < l.length), W.cell? ⟨g, i, none⟩ = some (.int .u8 (l[i].toNat : Int))) : (convert 39 9 (.slice (some ⟨g, 0, none⟩) l.length cap)).run Tryd.prog W = .ok (.string (mkB l)) W :=
  run_convert_bytes_back W 39 9 5 ⟨g, 0, none⟩ cap l Tryd.underlying39 Tryd.underlying5 Tryd.underlying9 fun j hj => by rw [Addr.add_mid, Nat.zero_add]; exact h j hj
set_option maxRecDepth 100000 in
set_option maxHeartbeats 4000000 in
theorem lparse_walk (raw : ByteArray) (a1 : Option Addr) (len1 cap1 : Nat) (z1 : List Int) (k y : Int) (w : World) (hE : Env w) (hr : IsRow .i64 w a1 len1 cap1 z1) (hy : (Lit.int .u8 y).wf = true) : Calls Tryd.prog 6 #[.string raw, .slice a1 len1 cap1, .int .i64 k, .int .u8 y] w fun e w' => e = .returned (.bool true) ∧ Below w.heap.size w w' := by
  have KA := Lib.hid (awake_true w hE)
  have HE := Lib.hid hE
  have HR := Lib.hid hr
  have hlow := hE.low
  obtain ⟨hy0, hy1⟩ : 0 ≤ y ∧ y ≤ 255 := Go.bounds_u8 hy
  clear hE hr hy
  by_cases h4 : 500 < raw.size
  · have d1 : decide (500 < raw.size) = true := by simpa using h4
    have d1' : decide (500 < (raw.size : Int)) = true := decide_eq_true (by omega)
    go_enter Tryd.func6, Tryd.ntmps6
    go_wp2_with fail
    refine KA.out.mono ?_
    rintro e w1 ⟨rfl, b1⟩
    go_wp2_with fail
    go_ret
    exact ⟨rfl, b1⟩
  have d0 : decide (500 < raw.size) = false := by simpa using h4
  have d0' : decide (500 < (raw.size : Int)) = false := decide_eq_false (by omega)
  by_cases h5 : 60 < len1
  · have d1 : decide (60 < len1) = true := by simpa using h5
    have d1' : decide (60 < (len1 : Int)) = true := decide_eq_true (by omega)
    go_enter Tryd.func6, Tryd.ntmps6
    go_wp2_with fail
    refine KA.out.mono ?_
    rintro e w1 ⟨rfl, b1⟩
    go_wp2_with fail
    go_ret
    exact ⟨rfl, b1⟩
  have d1 : decide (60 < len1) = false := by simpa using h5
  have d1' : decide (60 < (len1 : Int)) = false := decide_eq_false (by omega)
  go_enter Tryd.func6, Tryd.ntmps6
  go_wp2_with fail
  refine KA.out.mono ?_
  rintro e w1 ⟨rfl, b1⟩
  have HE1 := Lib.hid (HE.out.below b1 hlow)
  have KV := Lib.hid (events_any w1 a1 len1 cap1 z1 (HR.out.below b1) (by omega))
  have BEL1 := Lib.hid b1
  have sz1 := b1.size
  clear b1 KA HE
  go_wp2_with fail
  refine KV.out.mono ?_
  rintro e w2 ⟨v, E, rfl, hv, hlen, hown, b2⟩
  obtain ⟨a2, c2, rfl, hat, _⟩ := evs_own hown
  have sz2 := b2.size
  have BEL2 := Lib.hid (BEL1.out.trans (b2.mono (by omega)))
  have HE2 := Lib.hid (HE1.out.below b2 (by omega))
  have KF := Lib.hid (rformat_any a2 c2 E w2 hat (by omega) (valid_ok hv) HE2.out)
  have hD : (mkB (fmtL E)).size ≤ 2000 := by rw [mkB_size]; have := fmtL_len (valid_ok hv); omega
  obtain ⟨D, hDe⟩ : ∃ D, mkB (fmtL E) = D := ⟨_, rfl⟩
  rw [hDe] at KF hD
  clear hown hat b2 hv KV hlen HE1 hDe
  go_wp2_with fail
  refine KF.out.mono ?_
  rintro e w3 ⟨rfl, b3⟩
  have sz3 := b3.size
  obtain ⟨cap, W4, hcv, hcell, hfz, bD, hszo⟩ := conv_new D w3
  have BEL4 := Lib.hid (BEL2.out.trans ((b3.trans (bD.mono sz3)).mono (by omega)))
  have HE4 := Lib.hid ((HE2.out.below b3 (by omega)).below bD (by omega))
  have HCELL := Lib.hid hcell
  have HFZ := Lib.hid hfz
  clear b3 bD KF HE2 BEL2 hcell hfz
  by_cases h0 : D.size = 0
  · have e0 : decide (0 < D.size) = false := decide_eq_false (by omega)
    have e0' : decide (0 < (D.size : Int)) = false := decide_eq_false (by omega)
    have hb := bytes_back W4 w3.heap.size cap (bl D) HCELL.out
    rw [bl_len] at hb
    obtain ⟨L, hL⟩ : ∃ L, bl D = L := ⟨_, rfl⟩
    have hLs : L.length ≤ 2000 := by rw [← hL, bl_len]; exact hD
    rw [hL] at hb
    have HE9 := HE4
    have BEL9 := BEL4
    clear hL h0 HCELL HFZ HE4 BEL4
    obtain ⟨N, hN⟩ : ∃ N, D.size = N := ⟨_, rfl⟩
    rw [hN] at hcv hb e0 e0'
    go_wp2_with ((with_reducible refine go_built 40 _ #[.string raw, .string (mkB L)] (by with_unfolding_all kernel_rfl) ?_))
    go_loopw [44] (fun s44 wr => ∃ k : Nat, k ≤ 2 ∧ s44 = .int .i64 k ∧ Env wr ∧ Below w.heap.size w wr)
      (fun s44 _ => 2 - (intOf s44).toNat)
    case atStart => exact ⟨0, by omega, rfl, HE9.out, BEL9.out⟩
    case round =>
      obtain ⟨k, hk, rfl, hE, bel⟩ := hrel
      have h3 : k = 0 ∨ k = 1 ∨ k = 2 := by omega
      clear hk HE9 BEL9
      rcases h3 with rfl | rfl | rfl
      · have hix := two_at0 raw (mkB L) wr
        have KP := Lib.hid (parse_any (raw) ((by omega)) wr hE)
        have KR := Lib.hid (fun W => rparse_any (raw) ((by omega)) W)
        have HE := Lib.hid hE
        have BEL := Lib.hid bel
        have hlowr := hE.low
        have hszr := bel.size
        obtain ⟨r, hr⟩ : ∃ r, parseR (bl (raw)) = r := ⟨_, rfl⟩
        have hrl : r.1.length ≤ 2000 := by rw [← hr]; exact parse_len _
        simp only [hr] at KP KR
        obtain ⟨E, x⟩ := r
        simp only at hrl
        clear hE bel hr
        go_wp2_with fail
        refine KP.out.mono ?_
        rintro e w5 ⟨v5, rfl, hown5, b5⟩
        simp only at hown5
        obtain ⟨a5, c5, rfl, hat5, _⟩ := evs_own hown5
        have HAT5 := Lib.hid hat5
        have sz5 := b5.size
        have BEL5 := Lib.hid (BEL.out.trans (b5.mono hszr))
        have HE5 := Lib.hid (HE.out.below b5 hlowr)
        clear hown5 hat5 b5 KP
        go_wp2_with fail
        refine (KR.out w5).mono ?_
        rintro e w6 ⟨v6, rfl, hown6, b6⟩
        simp only at hown6
        obtain ⟨a6, c6, rfl, hat6, _⟩ := evs_own hown6
        have sz6 := b6.size
        have BEL6 := Lib.hid (BEL5.out.trans (b6.mono (by omega)))
        have HE6 := Lib.hid (HE5.out.below b6 (by omega))
        have KS := Lib.hid (same_any a5 a6 c5 c6 E w6 (HAT5.out.below b6) hat6 (by omega))
        have dx : (x != x) = false := by simp
        clear hown6 hat6 b6 KR HAT5
        go_wp2_with fail
        refine KS.out.mono ?_
        rintro e w7 ⟨rfl, b7⟩
        have sz7 := b7.size
        have BEL7 := Lib.hid (BEL6.out.trans (b7.mono (by omega)))
        have HE7 := Lib.hid (HE6.out.below b7 (by omega))
        clear b7 KS
        go_wp2_with fail
        go_roundw
        case rel => exact ⟨1, by omega, by rfl, HE7.out, BEL7.out⟩
        case measure => simp [intOf]
      · have hix := two_at1 raw (mkB L) wr
        have hml : (mkB L).size ≤ 1000000 := by rw [mkB_size]; omega
        have KP := Lib.hid (parse_any ((mkB L)) (hml) wr hE)
        have KR := Lib.hid (fun W => rparse_any ((mkB L)) (hml) W)
        have HE := Lib.hid hE
        have BEL := Lib.hid bel
        have hlowr := hE.low
        have hszr := bel.size
        obtain ⟨r, hr⟩ : ∃ r, parseR (bl ((mkB L))) = r := ⟨_, rfl⟩
        have hrl : r.1.length ≤ 2000 := by rw [← hr]; exact parse_len _
        simp only [hr] at KP KR
        obtain ⟨E, x⟩ := r
        simp only at hrl
        clear hE bel hr
        go_wp2_with fail
        refine KP.out.mono ?_
        rintro e w5 ⟨v5, rfl, hown5, b5⟩
        simp only at hown5
        obtain ⟨a5, c5, rfl, hat5, _⟩ := evs_own hown5
        have HAT5 := Lib.hid hat5
        have sz5 := b5.size
        have BEL5 := Lib.hid (BEL.out.trans (b5.mono hszr))
        have HE5 := Lib.hid (HE.out.below b5 hlowr)
        clear hown5 hat5 b5 KP
        go_wp2_with fail
        refine (KR.out w5).mono ?_
        rintro e w6 ⟨v6, rfl, hown6, b6⟩
        simp only at hown6
        obtain ⟨a6, c6, rfl, hat6, _⟩ := evs_own hown6
        have sz6 := b6.size
        have BEL6 := Lib.hid (BEL5.out.trans (b6.mono (by omega)))
        have HE6 := Lib.hid (HE5.out.below b6 (by omega))
        have KS := Lib.hid (same_any a5 a6 c5 c6 E w6 (HAT5.out.below b6) hat6 (by omega))
        have dx : (x != x) = false := by simp
        clear hown6 hat6 b6 KR HAT5
        go_wp2_with fail
        refine KS.out.mono ?_
        rintro e w7 ⟨rfl, b7⟩
        have sz7 := b7.size
        have BEL7 := Lib.hid (BEL6.out.trans (b7.mono (by omega)))
        have HE7 := Lib.hid (HE6.out.below b7 (by omega))
        clear b7 KS
        go_wp2_with fail
        go_roundw
        case rel => exact ⟨2, by omega, by rfl, HE7.out, BEL7.out⟩
        case measure => simp [intOf]
      · have BEL := Lib.hid bel
        clear hE bel
        go_wp2_with fail
        go_ret
        exact ⟨rfl, BEL.out⟩
  · have e0 : decide (0 < D.size) = true := decide_eq_true (by omega)
    have e0' : decide (0 < (D.size : Int)) = true := decide_eq_true (by omega)
    obtain ⟨N, hN⟩ : ∃ N, D.size = N := ⟨_, rfl⟩
    obtain ⟨r, hr⟩ : ∃ r, k % (N : Int) = r := ⟨_, rfl⟩
    have hr0 := Int.emod_nonneg k (show (N : Int) ≠ 0 by omega)
    have hr1 := Int.emod_lt_of_pos k (show (0 : Int) < (N : Int) by omega)
    rw [hr] at hr0 hr1
    obtain ⟨i, rfl⟩ := Int.eq_ofNat_of_zero_le hr0
    have hin : i < N := by omega
    have KM := fun W => mod_any k N W (by omega) (by omega)
    rw [hr] at KM
    have KM := Lib.hid KM
    have fz := HFZ.out i (by omega)
    have cz := HCELL.out i (by rw [bl_len]; omega)
    have hc2 : ∀ j (h : j < ((bl D).set i (UInt8.ofNat y.toNat)).length), (W4.setCell ⟨w3.heap.size, i, none⟩ (.int .u8 y)).cell? ⟨w3.heap.size, j, none⟩ = some (.int .u8 ((((bl D).set i (UInt8.ofNat y.toNat))[j]).toNat : Int)) := by
      intro j hj
      rw [List.length_set] at hj
      rw [List.getElem_set]
      by_cases e : i = j
      · subst e
        rw [if_pos rfl, World.cell?_setCell_same _ _ _ cz]
        simp
        omega
      · rw [if_neg e, World.cell?_setCell_other _ _ _ _ (by intro h; injection h with _ h; exact e h)]
        exact HCELL.out j hj
    have hb := bytes_back (W4.setCell ⟨w3.heap.size, i, none⟩ (.int .u8 y)) w3.heap.size cap _ hc2
    rw [List.length_set, bl_len] at hb
    obtain ⟨L, hL⟩ : ∃ L, (bl D).set i (UInt8.ofNat y.toNat) = L := ⟨_, rfl⟩
    have hLs : L.length ≤ 2000 := by rw [← hL, List.length_set, bl_len]; exact hD
    rw [hL] at hb
    have HE9 := Lib.hid (HE4.out.below ((Below.refl w3.heap.size W4).setCell (p := ⟨w3.heap.size, i, none⟩) (Nat.le_refl _) (.int .u8 y)) (by omega))
    have BEL9 := Lib.hid (BEL4.out.setCell (p := ⟨w3.heap.size, i, none⟩) (by show w.heap.size ≤ w3.heap.size; omega) (.int .u8 y))
    rw [hN] at hcv hb e0 e0'
    have hw3 : 3 ≤ w3.heap.size := by omega
    have hNb : N ≤ 2000 := by omega
    have hi0 : (0 : Int) ≤ (i : Int) := by omega
    rw [show ((bl D)[i]'(by rw [bl_len]; omega)).toNat = (((bl D).getD i 0).toNat) by rw [List.getD_eq_getElem?_getD, List.getElem?_eq_getElem (by rw [bl_len]; omega)]; rfl] at cz
    clear hL h0 HCELL HFZ HE4 BEL4 hc2 hN hD hr
    go_wp2_with fail
    refine (KM.out _).mono ?_
    rintro e W ⟨rfl, rfl⟩
    go_wp2_with ((with_reducible refine go_built 40 _ #[.string raw, .string (mkB L)] (by with_unfolding_all kernel_rfl) ?_))
    go_loopw [44] (fun s44 wr => ∃ k : Nat, k ≤ 2 ∧ s44 = .int .i64 k ∧ Env wr ∧ Below w.heap.size w wr)
      (fun s44 _ => 2 - (intOf s44).toNat)
    case atStart => exact ⟨0, by omega, rfl, HE9.out, BEL9.out⟩
    case round =>
      obtain ⟨k, hk, rfl, hE, bel⟩ := hrel
      have h3 : k = 0 ∨ k = 1 ∨ k = 2 := by omega
      clear hk HE9 BEL9
      rcases h3 with rfl | rfl | rfl
      · have hix := two_at0 raw (mkB L) wr
        have KP := Lib.hid (parse_any (raw) ((by omega)) wr hE)
        have KR := Lib.hid (fun W => rparse_any (raw) ((by omega)) W)
        have HE := Lib.hid hE
        have BEL := Lib.hid bel
        have hlowr := hE.low
        have hszr := bel.size
        obtain ⟨r, hr⟩ : ∃ r, parseR (bl (raw)) = r := ⟨_, rfl⟩
        have hrl : r.1.length ≤ 2000 := by rw [← hr]; exact parse_len _
        simp only [hr] at KP KR
        obtain ⟨E, x⟩ := r
        simp only at hrl
        clear hE bel hr
        go_wp2_with fail
        refine KP.out.mono ?_
        rintro e w5 ⟨v5, rfl, hown5, b5⟩
        simp only at hown5
        obtain ⟨a5, c5, rfl, hat5, _⟩ := evs_own hown5
        have HAT5 := Lib.hid hat5
        have sz5 := b5.size
        have BEL5 := Lib.hid (BEL.out.trans (b5.mono hszr))
        have HE5 := Lib.hid (HE.out.below b5 hlowr)
        clear hown5 hat5 b5 KP
        go_wp2_with fail
        refine (KR.out w5).mono ?_
        rintro e w6 ⟨v6, rfl, hown6, b6⟩
        simp only at hown6
        obtain ⟨a6, c6, rfl, hat6, _⟩ := evs_own hown6
        have sz6 := b6.size
        have BEL6 := Lib.hid (BEL5.out.trans (b6.mono (by omega)))
        have HE6 := Lib.hid (HE5.out.below b6 (by omega))
        have KS := Lib.hid (same_any a5 a6 c5 c6 E w6 (HAT5.out.below b6) hat6 (by omega))
        have dx : (x != x) = false := by simp
        clear hown6 hat6 b6 KR HAT5
        go_wp2_with fail
        refine KS.out.mono ?_
        rintro e w7 ⟨rfl, b7⟩
        have sz7 := b7.size
        have BEL7 := Lib.hid (BEL6.out.trans (b7.mono (by omega)))
        have HE7 := Lib.hid (HE6.out.below b7 (by omega))
        clear b7 KS
        go_wp2_with fail
        go_roundw
        case rel => exact ⟨1, by omega, by rfl, HE7.out, BEL7.out⟩
        case measure => simp [intOf]
      · have hix := two_at1 raw (mkB L) wr
        have hml : (mkB L).size ≤ 1000000 := by rw [mkB_size]; omega
        have KP := Lib.hid (parse_any ((mkB L)) (hml) wr hE)
        have KR := Lib.hid (fun W => rparse_any ((mkB L)) (hml) W)
        have HE := Lib.hid hE
        have BEL := Lib.hid bel
        have hlowr := hE.low
        have hszr := bel.size
        obtain ⟨r, hr⟩ : ∃ r, parseR (bl ((mkB L))) = r := ⟨_, rfl⟩
        have hrl : r.1.length ≤ 2000 := by rw [← hr]; exact parse_len _
        simp only [hr] at KP KR
        obtain ⟨E, x⟩ := r
        simp only at hrl
        clear hE bel hr
        go_wp2_with fail
        refine KP.out.mono ?_
        rintro e w5 ⟨v5, rfl, hown5, b5⟩
        simp only at hown5
        obtain ⟨a5, c5, rfl, hat5, _⟩ := evs_own hown5
        have HAT5 := Lib.hid hat5
        have sz5 := b5.size
        have BEL5 := Lib.hid (BEL.out.trans (b5.mono hszr))
        have HE5 := Lib.hid (HE.out.below b5 hlowr)
        clear hown5 hat5 b5 KP
        go_wp2_with fail
        refine (KR.out w5).mono ?_
        rintro e w6 ⟨v6, rfl, hown6, b6⟩
        simp only at hown6
        obtain ⟨a6, c6, rfl, hat6, _⟩ := evs_own hown6
        have sz6 := b6.size
        have BEL6 := Lib.hid (BEL5.out.trans (b6.mono (by omega)))
        have HE6 := Lib.hid (HE5.out.below b6 (by omega))
        have KS := Lib.hid (same_any a5 a6 c5 c6 E w6 (HAT5.out.below b6) hat6 (by omega))
        have dx : (x != x) = false := by simp
        clear hown6 hat6 b6 KR HAT5
        go_wp2_with fail
        refine KS.out.mono ?_
        rintro e w7 ⟨rfl, b7⟩
        have sz7 := b7.size
        have BEL7 := Lib.hid (BEL6.out.trans (b7.mono (by omega)))
        have HE7 := Lib.hid (HE6.out.below b7 (by omega))
        clear b7 KS
        go_wp2_with fail
        go_roundw
        case rel => exact ⟨2, by omega, by rfl, HE7.out, BEL7.out⟩
        case measure => simp [intOf]
      · have BEL := Lib.hid bel
        clear hE bel
        go_wp2_with fail
        go_ret
        exact ⟨rfl, BEL.out⟩
end Go.Proofs.YtkafmpgihhnhdaaDoor
