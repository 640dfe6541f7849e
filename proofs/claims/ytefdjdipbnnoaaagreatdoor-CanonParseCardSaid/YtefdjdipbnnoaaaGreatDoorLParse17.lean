/-
  CanonParse returns true. Its arguments: any.
-/
import Derived.Test.YtefdjdipbnnoaaaGreatDoorRParseP17
import Derived.Test.YtefdjdipbnnoaaaGreatDoorRFormat17
import Derived.Test.YtefdjdipbnnoaaaGreatDoorSame17
import Derived.Test.YtefdjdipbnnoaaaGreatDoorAwake17
import Derived.Test.YtefdjdipbnnoaaaGreatDoorStageF17
import Derived.OpenShut
namespace Go.Proofs.YtefdjdipbnnoaaaGreatDoor
open Go Go.RowKit
set_option linter.unusedVariables false

attribute [local go_sem ↓] ix_run ix0_run
theorem byte_conv (d : Int) (h0 : 0 ≤ d) (h1 : d ≤ 255) (W : World) (b : Nat) (hb : Blk W b 5 #[.int .u8 d]) : (convert 42 9 (.slice (some ⟨b, 0, none⟩) 1 1)).run Tryz.prog W = .ok (.string (mkB [UInt8.ofNat d.toNat])) W := by
  refine run_convert_bytes_back W 42 9 5 ⟨b, 0, none⟩ 1 [UInt8.ofNat d.toNat] Tryz.underlying42 Tryz.underlying5 Tryz.underlying9 fun j hj => ?_
  obtain rfl : j = 0 := by simp at hj; omega
  rw [Addr.add_mid, Nat.zero_add, hb.cell]
  simp
  omega
/-- The texts in memory. -/
def TextsAt (W : World) (b : Nat) (L : List ByteArray) : Prop := b < W.heap.size ∧ ∀ j x, L[j]? = some x → W.cell? ⟨b, j, none⟩ = some (.string x)
theorem TextsAt.below {W W' : World} {b : Nat} {L : List ByteArray} (h : TextsAt W b L) (hb : Below W.heap.size W W') : TextsAt W' b L :=
  ⟨by have := hb.size; have := h.1; omega, fun j x hx => (hb.cell (p := ⟨b, j, none⟩) h.1).trans (h.2 j x hx)⟩
theorem texts_blk {W : World} {b : Nat} {cur : Array Value} {L : List ByteArray} (h : Blk W b 9 cur) (hc : ∀ (j : Nat) (x : ByteArray), L[j]? = some x → cur[j]? = some (Value.string x)) : TextsAt W b L := ⟨h.lt, fun j x hx => (h.cell j).trans (hc j x hx)⟩
/-- As 'tabB', but the slots of K may be written by operation 'k'. -/
def tabBk (ops : Array Oper) (k : Nat) (E : List (Nat × Tmp)) (D : List (List (Nat × Tmp))) (K : List Tmp) : Bool :=
  (((List.range ops.size).filter (· != k)).map fun i => (i, dstOf ops i)) == E.map (fun p => (p.1, some p.2)) &&
  ((List.range ops.size).all fun i => (D.getD i []).all fun p => (depsOf ops i).contains p.1 && dstOf ops p.1 == some p.2) &&
  K.all fun t => (List.range ops.size).all fun i => i == k || !(dstOf ops i == some t)
theorem wp_region_tabk {P : Program} {Q : Exit → Act → World → Prop} {id : Nat} {a0 : Act} {w0 : World} {l : List Oper} (k : Nat) (E : List (Nat × Tmp)) (D : List (List (Nat × Tmp))) (K : List (Tmp × Value))
    (J : World → Prop) (R : World → World → Prop) (G : Nat → Value → World → Prop)
    (hm : P.follows .mixedOrders = true) (hk : lastB l.toArray k = true) (hp : plainB l.toArray a0.tmps.size k = true) (ht : tabBk l.toArray k E D (K.map (·.1)) = true)
    (hK : ∀ p ∈ K, a0.tmps[p.1]?.getD undef = p.2) (hG : ∀ i v w w', R w w' → G i v w → G i v w') (hJ : J w0.drew)
    (hops : EachOp k (fun i o => ∀ a w, J w → (∀ p ∈ K, a.tmps[p.1]?.getD undef = p.2) → (∀ p ∈ D.getD i [], G p.1 (a.tmps[p.2]?.getD undef) w) →
      o.wp P a w (fun a' w' => ∃ v, a' = a.put o.dst v ∧ R w w' ∧ J w' ∧ G i v w') Q) 0 l)
    (htail : ∀ (vs : Nat → Value) w, J w → (∀ p ∈ E, G p.1 (vs p.1) w) → Wait (AtOp (fun o => o.wp P (E.foldl (fun a p => a.put (some p.2) (vs p.1)) a0) w (Q .normal) Q) k l)) :
    (Code.region id l.toArray true).wp P Q a0 w0 := by
  simp only [tabBk, Bool.and_eq_true, beq_iff_eq, List.all_eq_true, List.mem_range, List.contains_iff_mem] at ht
  obtain ⟨⟨hE, hD⟩, hKt⟩ := ht
  refine wp_region_vals hm k hk hp J R G hG hJ (fun i o hi hik ho a w hJw hA hd => ?_) (fun vs w o hJw ho hGv => ?_)
  · have h := EachOp.get l 0 i o hops (by simpa using ho) (by omega)
    rw [Nat.zero_add] at h
    refine h a w hJw (fun p hp' => ?_) (fun p hp' => ?_)
    · have := hA.slot p.1 (fun i hik hi => by
        have hlt : i < l.toArray.size := by
          rcases Nat.lt_or_ge i l.toArray.size with h | h
          · exact h
          · simp [dstOf, Array.getElem?_eq_none h] at hi
        have h2 := hKt p.1 (List.mem_map.2 ⟨p, hp', rfl⟩) i hlt
        rw [hi] at h2
        simp [hik] at h2)
      rw [this]
      exact hK p hp'
    · obtain ⟨h1, h2⟩ := hD i hi p hp'
      have := hd p.1 h1 p.2 h2
      simpa only [Act.eval, Array.getD_eq_getD_getElem?] using this
  · have hGE : ∀ p ∈ E, G p.1 (vs p.1) w := by
      intro p hp'
      have : (p.1, some p.2) ∈ E.map (fun p => (p.1, some p.2)) := List.mem_map.2 ⟨p, hp', rfl⟩
      rw [← hE] at this
      obtain ⟨i, hi, he⟩ := List.mem_map.1 this
      simp only [List.mem_filter, List.mem_range, bne_iff_ne, ne_eq, Prod.mk.injEq] at hi he
      rw [← he.1]
      exact hGv i hi.1 hi.2
    have h := AtOp.get l k o (htail vs w hJw hGE).out (by simpa using ho)
    have e : layAll l.toArray k a0 vs = E.foldl (fun a p => a.put (some p.2) (vs p.1)) a0 := by
      have hgen : ∀ (a : Act), ((List.range l.toArray.size).filter (· != k)).foldl (fun a i => a.put (dstOf l.toArray i) (vs i)) a =
          (((List.range l.toArray.size).filter (· != k)).map fun i => (i, dstOf l.toArray i)).foldl (fun a p => a.put p.2 (vs p.1)) a := by
        intro a; rw [List.foldl_map]
      unfold layAll
      rw [hgen, hE, List.foldl_map]
    rw [e]
    exact h
/-- What each operation yields where the texts are made. -/
def txG (R T DS : ByteArray) (k g10 : Nat) (i : Nat) (v : Value) (w : World) : Prop :=
  match i with
  | 0 => v = .slice (some ⟨g10, 0, none⟩) 2 2
  | 1 => v = .string T
  | 2 => v = .int .i64 k
  | 3 => v = .string (T.extract 0 k)
  | 4 => v = .string DS
  | 5 => v = .string ((T.extract 0 k) ++ DS)
  | 6 => v = .string T
  | 7 => v = .int .i64 k
  | 8 => v = .int .i64 ((k : Int) + 1)
  | 9 => v = .string (T.extract (k + 1) T.size)
  | 10 => v = .string ((T.extract 0 k) ++ DS ++ (T.extract (k + 1) T.size))
  | 11 => v = .string T
  | 12 => v = .int .i64 k
  | 13 => v = .string (T.extract 0 k)
  | 14 => v = .string T
  | 15 => v = .int .i64 k
  | 16 => v = .int .i64 ((k : Int) + 1)
  | 17 => v = .string (T.extract (k + 1) T.size)
  | 18 => v = .string ((T.extract 0 k) ++ (T.extract (k + 1) T.size))
  | 19 => v = .string T
  | 20 => v = .int .i64 k
  | 21 => v = .string (T.extract 0 k)
  | 22 => v = .string DS
  | 23 => v = .string ((T.extract 0 k) ++ DS)
  | 24 => v = .string T
  | 25 => v = .int .i64 k
  | 26 => v = .string (T.extract k T.size)
  | 27 => v = .string ((T.extract 0 k) ++ DS ++ (T.extract k T.size))
  | 28 => v = .string T
  | 29 => v = .int .i64 k
  | 30 => v = .string (T.extract 0 k)
  | 31 => ∃ b, v = .slice (some ⟨b, 0, none⟩) 4 4 ∧ Blk w b 9 #[.string ((T.extract 0 k) ++ DS ++ (T.extract (k + 1) T.size)), .string ((T.extract 0 k) ++ (T.extract (k + 1) T.size)), .string ((T.extract 0 k) ++ DS ++ (T.extract k T.size)), .string (T.extract 0 k)]
  | 32 => ∃ b c, v = .slice (some ⟨b, 0, none⟩) 6 c ∧ TextsAt w b [R, T, ((T.extract 0 k) ++ DS ++ (T.extract (k + 1) T.size)), ((T.extract 0 k) ++ (T.extract (k + 1) T.size)), ((T.extract 0 k) ++ DS ++ (T.extract k T.size)), (T.extract 0 k)]
  | _ => True
theorem parseT_len (l : List UInt8) : (parseT l).1.length ≤ l.length := by
  unfold parseT
  split
  · simp
  · have := parse_len _ [] l (Nat.le_refl _)
    simpa using this
theorem size_app (a b : ByteArray) : (a ++ b).size = a.size + b.size := ByteArray.size_append
def signs17 : ByteArray := ⟨#[48, 49, 50, 51, 52, 53, 54, 55, 56, 57, 32, 45, 10, 108, 105, 110, 101, 97, 114, 99, 115, 116, 111, 112]⟩
theorem signs17_size : signs17.size = 24 := rfl
theorem good_valid : ∀ {l : List It} {p : V3}, Good p l → ∀ t ∈ l, validI t = true
  | [], _, _, t, ht => by simp at ht
  | x :: l, p, h, t, ht => by
    obtain ⟨h1, _, _, h4⟩ := h
    rcases List.mem_cons.1 ht with rfl | ht
    · exact h1
    · exact good_valid h4 t ht
set_option maxRecDepth 100000 in
set_option maxHeartbeats 8000000 in
theorem lparse_walk (R : ByteArray) (a1 : Option Addr) (len1 cap1 : Nat) (z1 : List Int) (pl y : Int) (w : World) (hE : EnvP w) (w1 : IsRow .i64 w a1 len1 cap1 z1) (hn : len1 ≤ 9223372036854775807) (hy : (Lit.int .u8 y).wf = true) : Calls Tryz.prog 4 #[.string R, .slice a1 len1 cap1, .int .i64 pl, .int .u8 y] w fun e w' => e = .returned (.bool true) ∧ Below w.heap.size w w' := by
  have HE0 := Lib.hid hE
  have hlow := hE.low
  have KL := Lib.hid (light_any w a1 len1 cap1)
  have KN := Lib.hid (tape_new w a1 len1 cap1 z1 w1 hn)
  obtain ⟨z, hz⟩ : ∃ z, (fun i => z1.getD i 0) = z := ⟨_, rfl⟩
  rw [hz] at KN
  obtain ⟨hy0, hy1⟩ : 0 ≤ y ∧ y ≤ 255 := Go.bounds_u8 hy
  clear hE w1 hn hz hy
  go_enter Tryz.func4, Tryz.ntmps4
  by_cases h200 : 200 < R.size
  · have d1 : decide (200 < R.size) = true := decide_eq_true h200
    have d1' : decide (200 < (R.size : Int)) = true := decide_eq_true (by omega)
    go_wp2_with fail
    refine (awake_true _ HE0.out.env).mono ?_
    rintro e w1 ⟨rfl, b1⟩
    go_wp2_with fail
    go_ret
    exact ⟨rfl, b1⟩
  have d0 : decide (200 < R.size) = false := decide_eq_false h200
  have d0' : decide (200 < (R.size : Int)) = false := decide_eq_false (by omega)
  have hR200 : R.size ≤ 200 := by omega
  go_wp2_with fail
  refine KL.out.mono ?_
  rintro e w' ⟨rfl, rfl⟩
  by_cases h120 : len1 ≤ 120
  rotate_left
  · have d2 : decide (len1 ≤ 120) = false := decide_eq_false h120
    rw [d2]
    go_wp2_with fail
    refine (awake_true _ HE0.out.env).mono ?_
    rintro e w1 ⟨rfl, b1⟩
    go_wp2_with fail
    go_ret
    exact ⟨rfl, b1⟩
  have d2 : decide (len1 ≤ 120) = true := decide_eq_true h120
  rw [d2]
  go_wp2_with fail
  refine KN.out.mono ?_
  rintro e w1 ⟨rfl, hs1, b1⟩
  have sz1 := b1.size
  have B1 := Lib.hid b1
  have S1 := Lib.hid hs1
  have l1 := hs1.lt
  clear hs1 b1 KN KL
  go_wp2_with fail
  refine (sitems_any w1 w.heap.size w.heap.size a1 len1 cap1 z ⟨0, S1.out⟩).mono ?_
  rintro e w2 ⟨v2, LL, p, rfl, hgood, hL8, hown, G2⟩
  obtain ⟨a5, c5, rfl, hat, hno⟩ := its_own hown
  have B2 : Below w.heap.size w w2 := B1.out.trans (below_of_grown G2.gr (by omega) (fun k e => by injection e; omega))
  have sz2 := B2.size
  have B2 := Lib.hid B2
  have HV := Lib.hid (good_valid hgood)
  have KF := rformat_any a5 c5 LL w2 hat (by omega)
  have hsT : (mkB (formatI LL)).size ≤ 2000 := by
    rw [mkB_size]
    unfold formatI
    rw [if_pos (List.all_eq_true.2 HV.out)]
    have := fmtIs_len HV.out
    omega
  obtain ⟨T, hT⟩ : ∃ T, mkB (formatI LL) = T := ⟨_, rfl⟩
  rw [hT] at KF hsT
  have KF := Lib.hid KF
  clear hat hno hgood hown G2 S1 B1 l1 sz1 d2 hT hL8 HV h120 h200
  go_wp2_with fail
  refine KF.out.mono ?_
  rintro e w3 ⟨rfl, b3⟩
  have BEL3 := Lib.hid (B2.out.trans (b3.mono sz2))
  have sz3 := BEL3.out.size
  clear b3 KF B2
  by_cases hT0 : T.size = 0
  · have e0 : decide (0 < T.size) = false := decide_eq_false (by omega)
    have e0' : decide (0 < (T.size : Int)) = false := decide_eq_false (by omega)
    have BEL4 := Lib.hid (BEL3.out.alloc (by omega) (.cells #[.string R, .string T] 9))
    obtain ⟨L, hL⟩ : ∃ L, [R, T] = L := ⟨_, rfl⟩
    have HLN := Lib.hid (by rw [← hL]; rfl : L.length = 2)
    have HSZ := Lib.hid (by
      rw [← hL]
      intro x hx
      simp only [List.mem_cons, List.not_mem_nil, or_false] at hx
      rcases hx with rfl | rfl <;> omega : ∀ x ∈ L, x.size ≤ 1000000)
    have hTX : TextsAt (w3.alloc (.cells #[.string R, .string T] 9)) w3.heap.size L := texts_blk (Blk.new w3 _ _) (by
      rw [← hL]
      intro j x hx
      have hj := (List.getElem?_eq_some_iff.1 hx).1
      simp only [List.length_cons, List.length_nil] at hj
      have hj2 : j = 0 ∨ j = 1 := by omega
      rcases hj2 with rfl | rfl <;> (simp only [List.getElem?_cons_zero, List.getElem?_cons_succ, Option.some.injEq] at hx; subst hx; rfl))
    obtain ⟨bT, hbT⟩ : ∃ b, w3.heap.size = b := ⟨_, rfl⟩
    rw [hbT] at hTX
    have HTX := Lib.hid hTX
    have HBT := Lib.hid hbT
    clear hTX hT0 hL hbT
    go_wp2_with fail
    rw [HBT.out]
    go_wp2_with fail
    go_loopw [14] (fun s14 wr => ∃ i : Nat, i ≤ 2 ∧ s14 = .int .i64 i ∧ TextsAt wr bT L ∧ Below w.heap.size w wr)
      (fun s14 _ => 2 - (intOf s14).toNat)
    case atStart => exact ⟨0, by omega, rfl, HTX.out, BEL4.out⟩
    case round =>
      obtain ⟨i, hi, rfl, hT, bel⟩ := hrel
      have HT := Lib.hid hT
      have BEL := Lib.hid bel
      have hszr := bel.size
      clear hT bel
      by_cases hlt : i < 2
      · obtain ⟨x, hx⟩ : ∃ x, L[i]? = some x := ⟨_, List.getElem?_eq_getElem (by have := HLN.out; omega)⟩
        have e1 : decide (i < 2) = true := decide_eq_true hlt
        have e1' : decide ((i : Int) < 2) = true := decide_eq_true (by omega)
        have i1 : (0 : Int) ≤ (i : Int) := by omega
        have i2 : (i : Int) < 2 := by omega
        have hxs := HSZ.out x (List.mem_of_getElem? hx)
        have c0 : wr.cell? ⟨bT, i, none⟩ = some (.string x) := HT.out.2 i x hx
        have KP := Lib.hid (parse_any x hxs wr (HE0.out.below BEL.out hlow))
        have hpl := parseT_len (bl x)
        obtain ⟨r, hr⟩ : ∃ r, parseT (bl x) = r := ⟨_, rfl⟩
        have hpl : r.1.length ≤ 1000000 := by rw [← hr]; rw [bl_len] at hpl; omega
        have HRR := Lib.hid hr
        have HX := Lib.hid hx
        rw [hr] at KP
        clear hr hx
        go_wp2_with fail
        refine KP.out.mono ?_
        rintro e w5 ⟨v5, rfl, hown5, b5⟩
        obtain ⟨E, m, y⟩ := r
        simp only at hown5 hpl
        simp only
        obtain ⟨a5, c5, rfl, hat5, _⟩ := its_own hown5
        have HAT5 := Lib.hid hat5
        have BEL5 := Lib.hid (BEL.out.trans (b5.mono hszr))
        have HT5 := Lib.hid (HT.out.below b5)
        have c1 : w5.cell? ⟨bT, i, none⟩ = some (.string x) := HT5.out.2 i x HX.out
        have KR := rparse_any x hxs w5
        rw [HRR.out] at KR
        have KR := Lib.hid KR
        have sz5 := BEL5.out.size
        clear hown5 hat5 b5 KP BEL HT c0
        go_wp2_with fail
        refine KR.out.mono ?_
        rintro e w8 ⟨v8, rfl, hown8, b8⟩
        simp only at hown8
        simp only
        obtain ⟨a8, c8, rfl, hat8, _⟩ := its_own hown8
        have BEL8 := Lib.hid (BEL5.out.trans (b8.mono sz5))
        have HT8 := Lib.hid (HT5.out.below b8)
        have KS := Lib.hid (same_any a5 a8 c5 c8 E w8 (HAT5.out.below b8) hat8 (by omega))
        have sz8 := BEL8.out.size
        have dm : (m != m) = false := by simp
        have dy : (y != y) = false := by simp
        clear hown8 hat8 b8 KR BEL5 HT5 c1 HAT5
        go_wp2_with fail
        refine KS.out.mono ?_
        rintro e w9 ⟨rfl, b9⟩
        have BEL9 := Lib.hid (BEL8.out.trans (b9.mono sz8))
        have HT9 := Lib.hid (HT8.out.below b9)
        clear b9 KS BEL8 HT8
        go_wp2_with fail
        go_roundw
        case rel => exact ⟨i + 1, by omega, by go_num, HT9.out, BEL9.out⟩
        case measure => simp [intOf]; omega
      · obtain rfl : i = 2 := by omega
        have KA := Lib.hid (awake_true wr (HE0.out.below BEL.out hlow).env)
        go_wp2_with fail
        refine KA.out.mono ?_
        rintro e w5 ⟨rfl, b5⟩
        go_wp2_with fail
        go_ret
        exact ⟨rfl, BEL.out.trans (b5.mono hszr)⟩
  · have e0 : decide (0 < T.size) = true := decide_eq_true (by omega)
    have e0' : decide (0 < (T.size : Int)) = true := decide_eq_true (by omega)
    obtain ⟨r, hrr⟩ : ∃ r, pl % (T.size : Int) = r := ⟨_, rfl⟩
    have hr0 := Int.emod_nonneg pl (show (T.size : Int) ≠ 0 by omega)
    have hr1 := Int.emod_lt_of_pos pl (show (0 : Int) < (T.size : Int) by omega)
    rw [hrr] at hr0 hr1
    obtain ⟨k, rfl⟩ := Int.eq_ofNat_of_zero_le hr0
    have hkn : k < T.size := by omega
    have KM := fun W => mod_any pl T.size W (by omega) (by omega)
    rw [hrr] at KM
    have KM := Lib.hid KM
    obtain ⟨q, hq⟩ : ∃ r, y % 24 = r := ⟨_, rfl⟩
    have hq0 := Int.emod_nonneg y (show (24 : Int) ≠ 0 by omega)
    have hq1 := Int.emod_lt_of_pos y (show (0 : Int) < (24 : Int) by omega)
    rw [hq] at hq0 hq1
    have KM5 := fun W => mod_any y 24 W (by omega) (by omega)
    rw [hq] at KM5
    have KM5 := Lib.hid KM5
    obtain ⟨qn, rfl⟩ := Int.eq_ofNat_of_zero_le hq0
    have hqn : qn < signs17.size := by rw [signs17_size]; omega
    have hix := fun W => ix_run signs17 qn hqn W
    have hbd := byt_bd signs17 qn
    obtain ⟨d, hd⟩ : ∃ d, byt signs17 qn = d := ⟨_, rfl⟩
    rw [hd] at hbd
    simp only [hd] at hix
    have HIX := Lib.hid hix
    have HD0 := Lib.hid hbd.1
    have HD1 := Lib.hid hbd.2
    obtain ⟨DS, hDS⟩ : ∃ D, mkB [UInt8.ofNat d.toNat] = D := ⟨_, rfl⟩
    have HDS := Lib.hid hDS
    have HSD := Lib.hid (by rw [← hDS, mkB_size]; rfl : DS.size = 1)
    have hw0 : IntKind.i64.wrap y = y := by rw [IntKind.wrap_i64]; omega
    have BEL6 := Lib.hid (BEL3.out.alloc (by omega) (.cells #[.string R, .string T] 9))
    have HB10 := Lib.hid (Blk.new w3 9 #[.string R, .string T])
    obtain ⟨g10, hg10⟩ : ∃ b, w3.heap.size = b := ⟨_, rfl⟩
    obtain ⟨w6, hw6⟩ : ∃ W, w3.alloc (.cells #[.string R, .string T] 9) = W := ⟨_, rfl⟩
    rw [hw6] at BEL6 HB10
    rw [hg10] at HB10
    have HG10 := Lib.hid hg10
    have HW6 := Lib.hid hw6
    have sz6 := BEL6.out.size
    have k0 : (0 : Int) ≤ (k : Int) := by omega
    have k1 : (k : Int) ≤ (T.size : Int) := by omega
    have k2 : (k : Int) + 1 ≤ (T.size : Int) := by omega
    have k3 : (0 : Int) ≤ (k : Int) + 1 := by omega
    have hixw := HIX.out w6
    have hcv := byte_conv d HD0.out HD1.out (w6.alloc (.cells #[.int .u8 d] 5)) w6.heap.size (Blk.new w6 _ _)
    rw [HDS.out] at hcv
    clear hd hix hbd hDS hg10 hw6 hq hrr hq0 hr0 hT0 BEL3 hqn
    unfold signs17 at hixw
    go_wp2_with fail
    rw [HW6.out, HG10.out]
    refine (KM.out _).mono ?_
    rintro e W ⟨rfl, rfl⟩
    clear KM
    go_wp2_with fail
    refine (KM5.out _).mono ?_
    rintro e W ⟨rfl, rfl⟩
    clear KM5
    go_upto_region 9 with fail
    refine wp_told (fun W => Below w.heap.size w W ∧ Blk W g10 9 #[.string R, .string T]) ⟨BEL6.out.alloc sz6 _, HB10.out.alloc _⟩ ?_
    clear hixw hcv HIX BEL6 HB10 sz6 HW6
    rintro w6 ⟨bel6, hb10⟩
    have BEL6 := Lib.hid bel6
    have HB10 := Lib.hid hb10
    have sz6 := bel6.size
    clear bel6 hb10
    refine wp_region_tabk 33 [(0, 53), (1, 54), (2, 55), (3, 56), (4, 57), (5, 58), (6, 59), (7, 60), (8, 61), (9, 62), (10, 63), (11, 64), (12, 65), (13, 66), (14, 67), (15, 68), (16, 69), (17, 70), (18, 71), (19, 72), (20, 73), (21, 74), (22, 75), (23, 76), (24, 77), (25, 78), (26, 79), (27, 80), (28, 81), (29, 82), (30, 83), (31, 84), (32, 85)]
      [[], [], [], [(1, 54), (2, 55)], [], [(3, 56), (4, 57)], [], [], [(7, 60)], [(6, 59), (8, 61)], [(5, 58), (9, 62)], [], [], [(11, 64), (12, 65)], [], [], [(15, 68)], [(14, 67), (16, 69)], [(13, 66), (17, 70)], [], [], [(19, 72), (20, 73)], [], [(21, 74), (22, 75)], [], [], [(24, 77), (25, 78)], [(23, 76), (26, 79)], [], [], [(28, 81), (29, 82)], [(10, 63), (18, 71), (27, 80), (30, 83)], [(0, 53), (31, 84)]]
      [(10, .slice (some ⟨g10, 0, none⟩) 2 2), (9, .string T), (11, .int .i64 k), (13, .string DS)]
      (fun W => Below w6.heap.size w6 W ∧ Blk W g10 9 #[.string R, .string T]) (fun w w' => Below w.heap.size w w') (txG R T DS k g10)
      (by kernel_rfl) (by kernel_rfl) (by kernel_rfl) (by kernel_rfl) ?_ ?_ ?_ ?_ ?_
    · intro p hp
      simp only [List.mem_cons, List.not_mem_nil, or_false] at hp
      rcases hp with rfl | rfl | rfl | rfl <;> rfl
    · intro i v w1 w2 hg hv
      unfold txG at hv ⊢
      split at hv
      all_goals first
        | exact hv
        | (obtain ⟨b, e, hb⟩ := hv; exact ⟨b, e, hb.below hg hb.lt⟩)
        | (obtain ⟨b, c, e, hb⟩ := hv; exact ⟨b, c, e, hb.below hg⟩)
    · exact ⟨(Below.refl _ _).drew, Blk.drew HB10.out⟩
    · simp only [EachOp]
      refine ⟨fun _ => ?_, fun _ => ?_, fun _ => ?_, fun _ => ?_, fun _ => ?_, fun _ => ?_, fun _ => ?_, fun _ => ?_, fun _ => ?_, fun _ => ?_, fun _ => ?_, fun _ => ?_, fun _ => ?_, fun _ => ?_, fun _ => ?_, fun _ => ?_, fun _ => ?_, fun _ => ?_, fun _ => ?_, fun _ => ?_, fun _ => ?_, fun _ => ?_, fun _ => ?_, fun _ => ?_, fun _ => ?_, fun _ => ?_, fun _ => ?_, fun _ => ?_, fun _ => ?_, fun _ => ?_, fun _ => ?_, fun _ => ?_, fun _ => ?_, fun h => absurd rfl h, trivial⟩
      all_goals intro a1 w1 hJ hA hd; simp only [List.getD_cons_zero, List.getD_cons_succ, List.mem_cons, List.not_mem_nil, or_false, forall_eq_or_imp, forall_eq] at hd
      · refine BigFrame.wp_move _ rfl ⟨_, rfl, Below.refl _ _, hJ, ?_⟩; show a1.tmps.getD 10 undef = _; rw [Array.getD_eq_getD_getElem?]; exact hA (10, .slice (some ⟨g10, 0, none⟩) 2 2) (by simp)
      · refine BigFrame.wp_move _ rfl ⟨_, rfl, Below.refl _ _, hJ, ?_⟩; show a1.tmps.getD 9 undef = _; rw [Array.getD_eq_getD_getElem?]; exact hA (9, .string T) (by simp)
      · refine BigFrame.wp_move _ rfl ⟨_, rfl, Below.refl _ _, hJ, ?_⟩; show a1.tmps.getD 11 undef = _; rw [Array.getD_eq_getD_getElem?]; exact hA (11, .int .i64 k) (by simp)
      · clear hA
        obtain ⟨h1, h2⟩ := hd
        have h1 : a1.tmps[54]?.getD undef = .string T := h1
        have h2 : a1.tmps[55]?.getD undef = .int .i64 k := h2
        go_simp
        first | exact ⟨_, rfl, Below.refl _ _, rfl⟩ | exact ⟨_, rfl, Below.refl _ _, hJ, rfl⟩
      · refine BigFrame.wp_move _ rfl ⟨_, rfl, Below.refl _ _, hJ, ?_⟩; show a1.tmps.getD 13 undef = _; rw [Array.getD_eq_getD_getElem?]; exact hA (13, .string DS) (by simp)
      · clear hA
        obtain ⟨h1, h2⟩ := hd
        have h1 : a1.tmps[56]?.getD undef = .string (T.extract 0 k) := h1
        have h2 : a1.tmps[57]?.getD undef = .string DS := h2
        have hg : ¬ 9223372036854775807 < min k T.size + DS.size := by have := HSD.out; omega
        go_simp
        first | exact ⟨_, rfl, Below.refl _ _, rfl⟩ | exact ⟨_, rfl, Below.refl _ _, hJ, rfl⟩
      · refine BigFrame.wp_move _ rfl ⟨_, rfl, Below.refl _ _, hJ, ?_⟩; show a1.tmps.getD 9 undef = _; rw [Array.getD_eq_getD_getElem?]; exact hA (9, .string T) (by simp)
      · refine BigFrame.wp_move _ rfl ⟨_, rfl, Below.refl _ _, hJ, ?_⟩; show a1.tmps.getD 11 undef = _; rw [Array.getD_eq_getD_getElem?]; exact hA (11, .int .i64 k) (by simp)
      · clear hA
        have h1 : a1.tmps[60]?.getD undef = .int .i64 k := hd
        clear hd
        have hwk : IntKind.i64.wrap ((k : Int) + 1) = (k : Int) + 1 := (by rw [IntKind.wrap_i64]; omega)
        go_simp
        first | exact ⟨_, rfl, Below.refl _ _, rfl⟩ | exact ⟨_, rfl, Below.refl _ _, hJ, rfl⟩
      · clear hA
        obtain ⟨h1, h2⟩ := hd
        have h1 : a1.tmps[59]?.getD undef = .string T := h1
        have h2 : a1.tmps[61]?.getD undef = .int .i64 ((k : Int) + 1) := h2
        go_simp
        first | exact ⟨_, rfl, Below.refl _ _, rfl⟩ | exact ⟨_, rfl, Below.refl _ _, hJ, rfl⟩
      · clear hA
        obtain ⟨h1, h2⟩ := hd
        have h1 : a1.tmps[58]?.getD undef = .string ((T.extract 0 k) ++ DS) := h1
        have h2 : a1.tmps[62]?.getD undef = .string (T.extract (k + 1) T.size) := h2
        have hg : ¬ 9223372036854775807 < min k T.size + DS.size + (T.size - (k + 1)) := by have := HSD.out; omega
        go_simp
        first | exact ⟨_, rfl, Below.refl _ _, rfl⟩ | exact ⟨_, rfl, Below.refl _ _, hJ, rfl⟩
      · refine BigFrame.wp_move _ rfl ⟨_, rfl, Below.refl _ _, hJ, ?_⟩; show a1.tmps.getD 9 undef = _; rw [Array.getD_eq_getD_getElem?]; exact hA (9, .string T) (by simp)
      · refine BigFrame.wp_move _ rfl ⟨_, rfl, Below.refl _ _, hJ, ?_⟩; show a1.tmps.getD 11 undef = _; rw [Array.getD_eq_getD_getElem?]; exact hA (11, .int .i64 k) (by simp)
      · clear hA
        obtain ⟨h1, h2⟩ := hd
        have h1 : a1.tmps[64]?.getD undef = .string T := h1
        have h2 : a1.tmps[65]?.getD undef = .int .i64 k := h2
        go_simp
        first | exact ⟨_, rfl, Below.refl _ _, rfl⟩ | exact ⟨_, rfl, Below.refl _ _, hJ, rfl⟩
      · refine BigFrame.wp_move _ rfl ⟨_, rfl, Below.refl _ _, hJ, ?_⟩; show a1.tmps.getD 9 undef = _; rw [Array.getD_eq_getD_getElem?]; exact hA (9, .string T) (by simp)
      · refine BigFrame.wp_move _ rfl ⟨_, rfl, Below.refl _ _, hJ, ?_⟩; show a1.tmps.getD 11 undef = _; rw [Array.getD_eq_getD_getElem?]; exact hA (11, .int .i64 k) (by simp)
      · clear hA
        have h1 : a1.tmps[68]?.getD undef = .int .i64 k := hd
        clear hd
        have hwk : IntKind.i64.wrap ((k : Int) + 1) = (k : Int) + 1 := (by rw [IntKind.wrap_i64]; omega)
        go_simp
        first | exact ⟨_, rfl, Below.refl _ _, rfl⟩ | exact ⟨_, rfl, Below.refl _ _, hJ, rfl⟩
      · clear hA
        obtain ⟨h1, h2⟩ := hd
        have h1 : a1.tmps[67]?.getD undef = .string T := h1
        have h2 : a1.tmps[69]?.getD undef = .int .i64 ((k : Int) + 1) := h2
        go_simp
        first | exact ⟨_, rfl, Below.refl _ _, rfl⟩ | exact ⟨_, rfl, Below.refl _ _, hJ, rfl⟩
      · clear hA
        obtain ⟨h1, h2⟩ := hd
        have h1 : a1.tmps[66]?.getD undef = .string (T.extract 0 k) := h1
        have h2 : a1.tmps[70]?.getD undef = .string (T.extract (k + 1) T.size) := h2
        have hg : ¬ 9223372036854775807 < min k T.size + (T.size - (k + 1)) := by have := HSD.out; omega
        go_simp
        first | exact ⟨_, rfl, Below.refl _ _, rfl⟩ | exact ⟨_, rfl, Below.refl _ _, hJ, rfl⟩
      · refine BigFrame.wp_move _ rfl ⟨_, rfl, Below.refl _ _, hJ, ?_⟩; show a1.tmps.getD 9 undef = _; rw [Array.getD_eq_getD_getElem?]; exact hA (9, .string T) (by simp)
      · refine BigFrame.wp_move _ rfl ⟨_, rfl, Below.refl _ _, hJ, ?_⟩; show a1.tmps.getD 11 undef = _; rw [Array.getD_eq_getD_getElem?]; exact hA (11, .int .i64 k) (by simp)
      · clear hA
        obtain ⟨h1, h2⟩ := hd
        have h1 : a1.tmps[72]?.getD undef = .string T := h1
        have h2 : a1.tmps[73]?.getD undef = .int .i64 k := h2
        go_simp
        first | exact ⟨_, rfl, Below.refl _ _, rfl⟩ | exact ⟨_, rfl, Below.refl _ _, hJ, rfl⟩
      · refine BigFrame.wp_move _ rfl ⟨_, rfl, Below.refl _ _, hJ, ?_⟩; show a1.tmps.getD 13 undef = _; rw [Array.getD_eq_getD_getElem?]; exact hA (13, .string DS) (by simp)
      · clear hA
        obtain ⟨h1, h2⟩ := hd
        have h1 : a1.tmps[74]?.getD undef = .string (T.extract 0 k) := h1
        have h2 : a1.tmps[75]?.getD undef = .string DS := h2
        have hg : ¬ 9223372036854775807 < min k T.size + DS.size := by have := HSD.out; omega
        go_simp
        first | exact ⟨_, rfl, Below.refl _ _, rfl⟩ | exact ⟨_, rfl, Below.refl _ _, hJ, rfl⟩
      · refine BigFrame.wp_move _ rfl ⟨_, rfl, Below.refl _ _, hJ, ?_⟩; show a1.tmps.getD 9 undef = _; rw [Array.getD_eq_getD_getElem?]; exact hA (9, .string T) (by simp)
      · refine BigFrame.wp_move _ rfl ⟨_, rfl, Below.refl _ _, hJ, ?_⟩; show a1.tmps.getD 11 undef = _; rw [Array.getD_eq_getD_getElem?]; exact hA (11, .int .i64 k) (by simp)
      · clear hA
        obtain ⟨h1, h2⟩ := hd
        have h1 : a1.tmps[77]?.getD undef = .string T := h1
        have h2 : a1.tmps[78]?.getD undef = .int .i64 k := h2
        go_simp
        first | exact ⟨_, rfl, Below.refl _ _, rfl⟩ | exact ⟨_, rfl, Below.refl _ _, hJ, rfl⟩
      · clear hA
        obtain ⟨h1, h2⟩ := hd
        have h1 : a1.tmps[76]?.getD undef = .string ((T.extract 0 k) ++ DS) := h1
        have h2 : a1.tmps[79]?.getD undef = .string (T.extract k T.size) := h2
        have hg : ¬ 9223372036854775807 < min k T.size + DS.size + (T.size - k) := by have := HSD.out; omega
        go_simp
        first | exact ⟨_, rfl, Below.refl _ _, rfl⟩ | exact ⟨_, rfl, Below.refl _ _, hJ, rfl⟩
      · refine BigFrame.wp_move _ rfl ⟨_, rfl, Below.refl _ _, hJ, ?_⟩; show a1.tmps.getD 9 undef = _; rw [Array.getD_eq_getD_getElem?]; exact hA (9, .string T) (by simp)
      · refine BigFrame.wp_move _ rfl ⟨_, rfl, Below.refl _ _, hJ, ?_⟩; show a1.tmps.getD 11 undef = _; rw [Array.getD_eq_getD_getElem?]; exact hA (11, .int .i64 k) (by simp)
      · clear hA
        obtain ⟨h1, h2⟩ := hd
        have h1 : a1.tmps[81]?.getD undef = .string T := h1
        have h2 : a1.tmps[82]?.getD undef = .int .i64 k := h2
        go_simp
        first | exact ⟨_, rfl, Below.refl _ _, rfl⟩ | exact ⟨_, rfl, Below.refl _ _, hJ, rfl⟩
      · clear hA
        obtain ⟨h1, h2, h3, h4⟩ := hd
        have h1 : a1.tmps[63]?.getD undef = .string ((T.extract 0 k) ++ DS ++ (T.extract (k + 1) T.size)) := h1
        have h2 : a1.tmps[71]?.getD undef = .string ((T.extract 0 k) ++ (T.extract (k + 1) T.size)) := h2
        have h3 : a1.tmps[80]?.getD undef = .string ((T.extract 0 k) ++ DS ++ (T.extract k T.size)) := h3
        have h4 : a1.tmps[83]?.getD undef = .string (T.extract 0 k) := h4
        go_simp
        exact ⟨_, rfl, (Below.refl _ _).alloc (Nat.le_refl _) _, ⟨hJ.1.alloc hJ.1.size _, hJ.2.alloc _⟩, w1.heap.size, rfl, Blk.new _ _ _⟩
      · clear hA
        obtain ⟨h1, b, h2, hb⟩ := hd
        have h1 : a1.tmps[53]?.getD undef = .slice (some ⟨g10, 0, none⟩) 2 2 := h1
        have h2 : a1.tmps[84]?.getD undef = .slice (some ⟨b, 0, none⟩) 4 4 := h2
        obtain ⟨i0, hi, hz0, hz1, hz2⟩ := info_parts infoStr
        have hrun := fun ty => run_append_grow (P := Tryz.prog) (w := w1) 40 ty 9 i0 (.string ⟨#[]⟩) Tryz.underlying40 hi hz0 ⟨g10, 0, none⟩ 2 2 [.string R, .string T] (by rw [hz1]; rfl) (fun j v hv => by rw [Addr.add_mid, Nat.zero_add, hJ.2.cell]; simpa using hv) ⟨b, 0, none⟩ 4 4 [.string ((T.extract 0 k) ++ DS ++ (T.extract (k + 1) T.size)), .string ((T.extract 0 k) ++ (T.extract (k + 1) T.size)), .string ((T.extract 0 k) ++ DS ++ (T.extract k T.size)), .string (T.extract 0 k)] (by rw [hz1]; rfl) (fun j v hv => by rw [Addr.add_mid, Nat.zero_add, hb.cell]; simpa using hv) (by omega) (by decide) (by rw [hz2]; decide)
        have hN := Blk.new w1.drew 9 (#[.string R, .string T] ++ #[.string ((T.extract 0 k) ++ DS ++ (T.extract (k + 1) T.size)), .string ((T.extract 0 k) ++ (T.extract (k + 1) T.size)), .string ((T.extract 0 k) ++ DS ++ (T.extract k T.size)), .string (T.extract 0 k)] ++ Builtin.zeroCells (Value.string ⟨#[]⟩).cells (grownCap w1 6 2 9 - 6))
        unfold Oper.wp execOp
        have x1 : a1.eval (.tmp 53) = .slice (some ⟨g10, 0, none⟩) 2 2 := by show a1.tmps.getD 53 undef = _; rw [Array.getD_eq_getD_getElem?]; exact h1
        have x2 : a1.eval (.tmp 84) = .slice (some ⟨b, 0, none⟩) 4 4 := by show a1.tmps.getD 84 undef = _; rw [Array.getD_eq_getD_getElem?]; exact h2
        simp only [resolve, invoke, builtin, Sem.run_bind, Sem.run_pure, Result.andThen_ok, List.map_toArray, List.map_cons, List.map_nil, x1, x2, hrun]
        refine ⟨_, rfl, (Below.refl _ _).drew.alloc (Nat.le_refl _) _, ⟨hJ.1.drew.alloc hJ.1.size _, (Blk.drew hJ.2).alloc _⟩, w1.heap.size, _, rfl, texts_blk hN ?_⟩
        intro j x hx
        have hj := (List.getElem?_eq_some_iff.1 hx).1
        simp only [List.length_cons, List.length_nil] at hj
        have hj6 : j = 0 ∨ j = 1 ∨ j = 2 ∨ j = 3 ∨ j = 4 ∨ j = 5 := by omega
        rcases hj6 with rfl | rfl | rfl | rfl | rfl | rfl <;> (simp only [List.getElem?_cons_zero, List.getElem?_cons_succ, Option.some.injEq] at hx; subst hx; first | rfl | (rw [Array.getElem?_append_left (by simp)]; first | rfl | skip))
    · intro vs w7 hJ hG
      have h32 := hG (32, 85) (by simp)
      clear hG
      simp only [txG] at h32
      obtain ⟨bT, cT, h32, hTX⟩ := h32
      refine ⟨?_⟩
      simp only [AtOp, List.foldl_cons, List.foldl_nil]
      rw [h32]
      simp only [Act.put, List.setIfInBounds_toArray, List.set_cons_zero, List.set_cons_succ]
      go_simp
      have BEL7 := Lib.hid (BEL6.out.trans (hJ.1.mono sz6))
      obtain ⟨L, hL⟩ : ∃ L, [R, T, ((T.extract 0 k) ++ DS ++ (T.extract (k + 1) T.size)), ((T.extract 0 k) ++ (T.extract (k + 1) T.size)), ((T.extract 0 k) ++ DS ++ (T.extract k T.size)), (T.extract 0 k)] = L := ⟨_, rfl⟩
      have HLN := Lib.hid (by rw [← hL]; rfl : L.length = 6)
      have HSZ := Lib.hid (by
        rw [← hL]
        intro x hx
        simp only [List.mem_cons, List.not_mem_nil, or_false] at hx
        rcases hx with rfl | rfl | rfl | rfl | rfl | rfl <;> (have := HSD.out; first | omega | (simp only [size_app, ByteArray.size_extract]; omega)) : ∀ x ∈ L, x.size ≤ 1000000)
      rw [hL] at hTX
      have HTX := Lib.hid hTX
      clear hJ h32 hTX hL
      go_wp2_with fail
      go_loopw [14] (fun s14 wr => ∃ i : Nat, i ≤ 6 ∧ s14 = .int .i64 i ∧ TextsAt wr bT L ∧ Below w.heap.size w wr)
        (fun s14 _ => 6 - (intOf s14).toNat)
      case atStart => exact ⟨0, by omega, rfl, HTX.out, BEL7.out⟩
      case round =>
        obtain ⟨i, hi, rfl, hT, bel⟩ := hrel
        have HT := Lib.hid hT
        have BEL := Lib.hid bel
        have hszr := bel.size
        clear hT bel
        by_cases hlt : i < 6
        · obtain ⟨x, hx⟩ : ∃ x, L[i]? = some x := ⟨_, List.getElem?_eq_getElem (by have := HLN.out; omega)⟩
          have e1 : decide (i < 6) = true := decide_eq_true hlt
          have e1' : decide ((i : Int) < 6) = true := decide_eq_true (by omega)
          have i1 : (0 : Int) ≤ (i : Int) := by omega
          have i2 : (i : Int) < 6 := by omega
          have hxs := HSZ.out x (List.mem_of_getElem? hx)
          have c0 : wr.cell? ⟨bT, i, none⟩ = some (.string x) := HT.out.2 i x hx
          have KP := Lib.hid (parse_any x hxs wr (HE0.out.below BEL.out hlow))
          have hpl := parseT_len (bl x)
          obtain ⟨r, hr⟩ : ∃ r, parseT (bl x) = r := ⟨_, rfl⟩
          have hpl : r.1.length ≤ 1000000 := by rw [← hr]; rw [bl_len] at hpl; omega
          have HRR := Lib.hid hr
          have HX := Lib.hid hx
          rw [hr] at KP
          clear hr hx
          go_wp2_with fail
          refine KP.out.mono ?_
          rintro e w5 ⟨v5, rfl, hown5, b5⟩
          obtain ⟨E, m, y⟩ := r
          simp only at hown5 hpl
          simp only
          obtain ⟨a5, c5, rfl, hat5, _⟩ := its_own hown5
          have HAT5 := Lib.hid hat5
          have BEL5 := Lib.hid (BEL.out.trans (b5.mono hszr))
          have HT5 := Lib.hid (HT.out.below b5)
          have c1 : w5.cell? ⟨bT, i, none⟩ = some (.string x) := HT5.out.2 i x HX.out
          have KR := rparse_any x hxs w5
          rw [HRR.out] at KR
          have KR := Lib.hid KR
          have sz5 := BEL5.out.size
          clear hown5 hat5 b5 KP BEL HT c0
          go_wp2_with fail
          refine KR.out.mono ?_
          rintro e w8 ⟨v8, rfl, hown8, b8⟩
          simp only at hown8
          simp only
          obtain ⟨a8, c8, rfl, hat8, _⟩ := its_own hown8
          have BEL8 := Lib.hid (BEL5.out.trans (b8.mono sz5))
          have HT8 := Lib.hid (HT5.out.below b8)
          have KS := Lib.hid (same_any a5 a8 c5 c8 E w8 (HAT5.out.below b8) hat8 (by omega))
          have sz8 := BEL8.out.size
          have dm : (m != m) = false := by simp
          have dy : (y != y) = false := by simp
          clear hown8 hat8 b8 KR BEL5 HT5 c1 HAT5
          go_wp2_with fail
          refine KS.out.mono ?_
          rintro e w9 ⟨rfl, b9⟩
          have BEL9 := Lib.hid (BEL8.out.trans (b9.mono sz8))
          have HT9 := Lib.hid (HT8.out.below b9)
          clear b9 KS BEL8 HT8
          go_wp2_with fail
          go_roundw
          case rel => exact ⟨i + 1, by omega, by go_num, HT9.out, BEL9.out⟩
          case measure => simp [intOf]; omega
        · obtain rfl : i = 6 := by omega
          have KA := Lib.hid (awake_true wr (HE0.out.below BEL.out hlow).env)
          go_wp2_with fail
          refine KA.out.mono ?_
          rintro e w5 ⟨rfl, b5⟩
          go_wp2_with fail
          go_ret
          exact ⟨rfl, BEL.out.trans (b5.mono hszr)⟩
end Go.Proofs.YtefdjdipbnnoaaaGreatDoor
