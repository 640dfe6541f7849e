/-
  cncref02.Digits, cncref16.Number, cncref16.Format: the text of a table. Any table.
-/
import Derived.Test.YtlpmbjgimllmgaaDoorFormat16
import Derived.Test.YtlpmbjgimllmgaaDoorHeldL
import Derived.Lib.ItoaNum
namespace Go.Proofs.YtlpmbjgimllmgaaDoor
open Go Go.RowKit
set_option linter.unusedVariables false

theorem dig10 (r : Nat) (h : r < 10) : (⟨#[48, 49, 50, 51, 52, 53, 54, 55, 56, 57]⟩ : ByteArray).extract r (r + 1) = mkB [UInt8.ofNat (48 + r)] := by
  match r, h with
  | 0, _ => rfl
  | 1, _ => rfl
  | 2, _ => rfl
  | 3, _ => rfl
  | 4, _ => rfl
  | 5, _ => rfl
  | 6, _ => rfl
  | 7, _ => rfl
  | 8, _ => rfl
  | 9, _ => rfl
  | n + 10, h => exact absurd h (by omega)
def dgB (k : Nat) : UInt8 := UInt8.ofNat (48 + k % 10)
theorem dig_at (k : Nat) : (⟨#[48, 49, 50, 51, 52, 53, 54, 55, 56, 57]⟩ : ByteArray).extract (k % 10) (k % 10 + 1) = mkB [dgB k] := dig10 (k % 10) (by omega)
theorem decD_one {k : Nat} (h : k < 10) : Lib.decDigits k = [dgB k] := by rw [Lib.decDigits_one h]; unfold dgB; rw [Nat.mod_eq_of_lt h]
theorem decD_more {k : Nat} (h : ¬ k < 10) : Lib.decDigits k = Lib.decDigits (k / 10) ++ [dgB k] := by rw [Lib.decDigits, dif_neg h]; rfl
theorem decD_most {m : Nat} (h : m < 10000000000) : (Lib.decDigits m).length ≤ 11 := by
  have := itoa_most (z := (m : Int)) (k := 9) (by have : (10 : Nat) ^ (9 + 1) = 10000000000 := by decide
                                                  omega)
  unfold Lib.itoa at this
  rw [if_neg (by omega), show (m : Int).toNat = m by omega] at this
  exact this
set_option maxRecDepth 100000 in
theorem digits_any (m : Nat) (w : World) (h : m < 10000000000) : Calls Tryd.prog 41 #[.int .i64 m] w fun e w' => e = .returned (.string (mkB (Lib.decDigits m))) ∧ Below w.heap.size w w' := by
  go_enter Tryd.func41, Tryd.ntmps41
  go_wp2_with fail
  go_loopw [0, 3] (fun s0 s3 wr => ∃ (k : Nat) (S : ByteArray), s0 = .int .i64 k ∧ s3 = .string S ∧ k ≤ m ∧ Lib.decDigits k ++ bl S = Lib.decDigits m ∧ w = wr)
    (fun s0 _ _ => (intOf s0).toNat)
  case atStart => exact ⟨m, ⟨#[]⟩, rfl, rfl, Nat.le_refl _, by simp [bl], rfl⟩
  case round =>
    obtain ⟨k, S, rfl, rfl, hk, hS, rfl⟩ := hrel
    have hlen : S.size ≤ 15 := by
      have h1 := congrArg List.length hS
      rw [List.length_append, bl_len] at h1
      have h2 := decD_most h
      omega
    have i0 : (0 : Int) ≤ (k : Int) := by omega
    by_cases h9 : 9 < k
    · have d1 : decide (9 < k) = true := by simpa using h9
      have hD : Lib.decDigits (k / 10) ++ bl (mkB [dgB k] ++ S) = Lib.decDigits m := by
        rw [bl_append, bl_mkB, ← hS, ← List.append_assoc, ← decD_more (by omega)]
      have HD := Lib.hid hD
      clear hD hS
      go_wp2_with fail
      go_roundw
      case rel => exact ⟨k / 10, _, by go_num, rfl, by omega, by rw [dig_at]; exact HD.out, trivial⟩
      case measure => simp only [intOf]; omega
    · have d1 : decide (9 < k) = false := by simpa using h9
      have hD : mkB [dgB k] ++ S = mkB (Lib.decDigits m) := by
        rw [← hS, decD_one (by omega), ← mkB_bl (mkB [dgB k] ++ S), bl_append, bl_mkB]
      have e10 : k % 10 = k := Nat.mod_eq_of_lt (by omega)
      have hx := dig_at k
      rw [e10] at hx
      have HX := Lib.hid (hx ▸ hD : (⟨#[48, 49, 50, 51, 52, 53, 54, 55, 56, 57]⟩ : ByteArray).extract k (k + 1) ++ S = mkB (Lib.decDigits m))
      clear hx e10 hD hS
      go_wp2_with fail
      go_ret
      exact ⟨by rw [HX.out]; rfl, Below.refl _ _⟩
theorem rnum_any (z : Int) (h : z.natAbs < 10000000000) (w : World) : Calls Tryd.prog 33 #[.int .i64 z] w fun e w' => e = .returned (.string (mkB (Lib.itoa z))) ∧ Below w.heap.size w w' := by
  by_cases h0 : z < 0
  · obtain ⟨m, hm⟩ : ∃ m : Nat, (m : Int) = - z := ⟨z.natAbs, by omega⟩
    have d0 : decide (z < 0) = true := decide_eq_true h0
    have KD := Lib.hid (digits_any m w (by omega))
    have R : Lib.itoa z = 45 :: Lib.decDigits m := by unfold Lib.itoa; rw [if_pos h0, show z.natAbs = m by omega]
    have hl : (mkB (Lib.decDigits m)).size ≤ 20 := by rw [mkB_size]; have := decD_most (m := m) (by omega); omega
    have g1 : ¬ (⟨#[45]⟩ : ByteArray).size + (mkB (Lib.decDigits m)).size > 9223372036854775807 := by
      rw [show (⟨#[45]⟩ : ByteArray).size = 1 from rfl]; omega
    have hw : IntKind.i64.wrap (m : Int) = m := by rw [IntKind.wrap_i64]; omega
    have R := Lib.hid R
    obtain rfl : z = - (m : Int) := by omega
    clear hm
    go_enter Tryd.func33, Tryd.ntmps33
    go_wp2_with fail
    refine KD.out.mono ?_
    rintro e w1 ⟨rfl, b1⟩
    go_wp2_with fail
    go_ret
    exact ⟨by rw [R.out]; rfl, b1⟩
  · obtain ⟨m, rfl⟩ := Int.eq_ofNat_of_zero_le (show 0 ≤ z by omega)
    have R : Lib.itoa (m : Int) = Lib.decDigits m := by unfold Lib.itoa; rw [if_neg h0, show (m : Int).toNat = m by omega]
    have d0 : decide ((m : Int) < 0) = false := decide_eq_false h0
    have KD := Lib.hid (digits_any m w (by omega))
    have R := Lib.hid R
    go_enter Tryd.func33, Tryd.ntmps33
    go_wp2_with fail
    refine KD.out.mono ?_
    rintro e w1 ⟨rfl, b1⟩
    go_wp2_with fail
    go_ret
    exact ⟨by rw [R.out]; rfl, b1⟩
/-- What stands in the world while a tool is written. -/
structure FS (B g : Nat) (x y z u : Int) (w W : World) : Prop where
  blk : Blk W g 29 #[.int .i64 x, .int .i64 y, .int .i64 z, .int .i64 u]
  bel : Below B w W
  base : B ≤ w.heap.size
theorem FS.below {B g : Nat} {x y z u : Int} {w W W' : World} (h : FS B g x y z u w W) (hb : Below W.heap.size W W') : FS B g x y z u w W' :=
  ⟨h.blk.below hb h.blk.lt, h.bel.trans (hb.mono (by have := h.bel.size; have := h.base; omega)), h.base⟩
set_option maxRecDepth 100000 in
set_option maxHeartbeats 4000000 in
theorem rformat_any (a : Option Addr) (c : Nat) (l : List To) (w : World) (h : TosAt w a l) (hn : l.length ≤ 1073741824) :
    Calls Tryd.prog 17 #[.slice a l.length c] w fun e w' => e = .returned (.string (mkB (formatT l))) ∧ Below w.heap.size w w' := by
  obtain ⟨n, hln⟩ : ∃ n, l.length = n := ⟨_, rfl⟩
  have KV := rvalid_any a c l w h (by omega)
  have HLN := Lib.hid hln
  have H := Lib.hid h
  rw [hln] at KV hn ⊢
  clear h hln
  cases hv : validT l
  · have R : formatT l = [] := by unfold formatT; rw [hv, if_neg (by decide)]
    have R := Lib.hid R
    rw [hv] at KV
    have KV := Lib.hid KV
    clear hv
    go_enter Tryd.func17, Tryd.ntmps17
    go_wp2_with fail
    refine KV.out.mono ?_
    rintro e w1 ⟨rfl, b1⟩
    go_wp2_with fail
    go_ret
    exact ⟨by rw [R.out]; rfl, b1⟩
  · have R : formatT l = fmtOs l := by unfold formatT; rw [hv, if_pos rfl]
    have R := Lib.hid R
    have HALL := Lib.hid (validT_all hv)
    have HG := Lib.hid (fun k (hk : k < n) => (⟨l[k]'(by have := HLN.out; omega), List.getElem?_eq_getElem _⟩ : ∃ x, l[k]? = some x))
    rw [hv] at KV
    have KV := Lib.hid KV
    have hn32 : n ≤ 32 := by have := HALL.out.1; have := HLN.out; omega
    clear hv
    go_enter Tryd.func17, Tryd.ntmps17
    go_wp2_with fail
    refine KV.out.mono ?_
    rintro e w1 ⟨rfl, b1⟩
    have B1 := Lib.hid b1
    clear b1 KV
    go_wp2_with fail
    go_loopw [3, 4] (fun s3 s4 wr => ∃ k : Nat, k ≤ n ∧ s4 = .int .i64 k ∧ s3 = .string (mkB (fmtOs (l.take k))) ∧ Below w.heap.size w wr)
      (fun _ s4 _ => n - (intOf s4).toNat)
    case atStart => exact ⟨0, by omega, rfl, rfl, B1.out⟩
    case round =>
      obtain ⟨k, hk, rfl, rfl, bel⟩ := hrel
      have hsz := bel.size
      by_cases hlt : k < n
      · obtain ⟨t, hx⟩ := HG.out k hlt
        have e1 : decide (k < n) = true := decide_eq_true hlt
        obtain ⟨b, o, rfl, _, hc⟩ := H.out.below bel k t hx
        have hgd := HALL.out.2 t (List.mem_of_getElem? hx)
        have hts := take_snoc hx
        have hfl : (fmtOs (l.take k)).length ≤ 1280 := by
          have := fmtOs_len (l := l.take k) fun e he => HALL.out.2 e (List.mem_of_mem_take he)
          rw [List.length_take] at this
          omega
        obtain ⟨x, y, z, u⟩ := t
        obtain ⟨p1, p2, p3, p4, _⟩ := (toGood_iff _).1 hgd
        simp only at p1 p2 p3 p4
        have c0 := hc 0 _ rfl
        have c1 := hc 1 _ rfl
        have c2 := hc 2 _ rfl
        have c3 := hc 3 _ rfl
        simp only [Nat.add_zero] at c0 c1 c2 c3
        have i1 : (0 : Int) ≤ (k : Int) := by omega
        have i2 : (k : Int) < (n : Int) := by omega
        have hS : FS w.heap.size wr.heap.size x y z u w (wr.alloc (.cells #[.int .i64 x, .int .i64 y, .int .i64 z, .int .i64 u] 29)) :=
          ⟨Blk.new wr _ _, bel.alloc (by omega) _, Nat.le_refl _⟩
        have HS := Lib.hid hS
        have HTS := Lib.hid hts
        obtain ⟨A1, hA1⟩ : ∃ A, mkB (Lib.itoa x) = A := ⟨_, rfl⟩
        obtain ⟨A2, hA2⟩ : ∃ A, mkB (Lib.itoa y) = A := ⟨_, rfl⟩
        obtain ⟨A3, hA3⟩ : ∃ A, mkB (Lib.itoa z) = A := ⟨_, rfl⟩
        obtain ⟨A4, hA4⟩ : ∃ A, mkB (Lib.itoa u) = A := ⟨_, rfl⟩
        obtain ⟨T, hT⟩ : ∃ A, mkB (fmtOs (l.take k)) = A := ⟨_, rfl⟩
        have z1 : A1.size ≤ 9 := by rw [← hA1, mkB_size]; exact inC_itoa p1
        have z2 : A2.size ≤ 9 := by rw [← hA2, mkB_size]; exact inC_itoa p2
        have z3 : A3.size ≤ 9 := by rw [← hA3, mkB_size]; exact inC_itoa p3
        have z4 : A4.size ≤ 9 := by rw [← hA4, mkB_size]; exact inC_itoa p4
        have zT : T.size ≤ 1280 := by rw [← hT, mkB_size]; exact hfl
        have HT : T ++ A1 ++ ⟨#[32]⟩ ++ A2 ++ ⟨#[32]⟩ ++ A3 ++ ⟨#[32]⟩ ++ A4 ++ ⟨#[10]⟩ = mkB (fmtOs (l.take (k + 1))) := by
          rw [HTS.out, fmtOs_snoc]
          have : bl (T ++ A1 ++ ⟨#[32]⟩ ++ A2 ++ ⟨#[32]⟩ ++ A3 ++ ⟨#[32]⟩ ++ A4 ++ ⟨#[10]⟩) = fmtOs (l.take k) ++ fmtO ⟨x, y, z, u⟩ := by
            simp only [bl_append, ← hA1, ← hA2, ← hA3, ← hA4, ← hT, bl_mkB]
            unfold fmtO
            simp [bl]
          rw [← this, mkB_bl]
        have HT := Lib.hid HT
        have KA1 := Lib.hid (fun W => (hA1 ▸ rnum_any x (by obtain ⟨h1, h2⟩ := p1; omega) W : Calls Tryd.prog 33 #[.int .i64 x] W fun e w' => e = .returned (.string A1) ∧ Below W.heap.size W w'))
        have KA2 := Lib.hid (fun W => (hA2 ▸ rnum_any y (by obtain ⟨h1, h2⟩ := p2; omega) W : Calls Tryd.prog 33 #[.int .i64 y] W fun e w' => e = .returned (.string A2) ∧ Below W.heap.size W w'))
        have KA3 := Lib.hid (fun W => (hA3 ▸ rnum_any z (by obtain ⟨h1, h2⟩ := p3; omega) W : Calls Tryd.prog 33 #[.int .i64 z] W fun e w' => e = .returned (.string A3) ∧ Below W.heap.size W w'))
        have KA4 := Lib.hid (fun W => (hA4 ▸ rnum_any u (by obtain ⟨h1, h2⟩ := p4; omega) W : Calls Tryd.prog 33 #[.int .i64 u] W fun e w' => e = .returned (.string A4) ∧ Below W.heap.size W w'))
        rw [hT]
        clear hA1 hA2 hA3 hA4 hT hfl hS hc hx bel hts hgd p1 p2 p3 p4
        go_wp2_with fail
        have hS0 := HS.out.below (below_drewN (Below.refl _ _) 1)
        refine region_L (FS w.heap.size wr.heap.size x y z u w) [] (by kernel_rfl) ?_
        refine take_P 0 (v := .string T) rfl (by kernel_rfl) (by kernel_rfl) (by kernel_rfl) (fun _ _ _ h => h) rfl (fun W' => by go_simp) ?_
        refine take_P 1 (v := .pointer (some ⟨wr.heap.size, 0, none⟩)) rfl (by kernel_rfl) (by kernel_rfl) (by kernel_rfl) (fun _ _ _ h => h) rfl (fun W' => by go_simp) ?_
        refine take_L 2 (v := .int .i64 x) rfl (by kernel_rfl) (by kernel_rfl) (by kernel_rfl) (by kernel_rfl) (fun _ _ _ h => h) rfl (fun W' hW' => by have z : W'.cell? ⟨wr.heap.size, 0, none⟩ = some (.int .i64 x) := hW'.blk.cell 0; go_simp) hS0 ?_
        refine take_P 6 (v := .pointer (some ⟨wr.heap.size, 1, none⟩)) rfl (by kernel_rfl) (by kernel_rfl) (by kernel_rfl) (fun _ _ _ h => h) rfl (fun W' => by go_simp) ?_
        refine take_L 7 (v := .int .i64 y) rfl (by kernel_rfl) (by kernel_rfl) (by kernel_rfl) (by kernel_rfl) (fun _ _ _ h => h) rfl (fun W' hW' => by have z : W'.cell? ⟨wr.heap.size, 1, none⟩ = some (.int .i64 y) := hW'.blk.cell 1; go_simp) hS0 ?_
        refine take_P 11 (v := .pointer (some ⟨wr.heap.size, 2, none⟩)) rfl (by kernel_rfl) (by kernel_rfl) (by kernel_rfl) (fun _ _ _ h => h) rfl (fun W' => by go_simp) ?_
        refine take_L 12 (v := .int .i64 z) rfl (by kernel_rfl) (by kernel_rfl) (by kernel_rfl) (by kernel_rfl) (fun _ _ _ h => h) rfl (fun W' hW' => by have zz : W'.cell? ⟨wr.heap.size, 2, none⟩ = some (.int .i64 z) := hW'.blk.cell 2; go_simp) hS0 ?_
        refine take_P 16 (v := .pointer (some ⟨wr.heap.size, 3, none⟩)) rfl (by kernel_rfl) (by kernel_rfl) (by kernel_rfl) (fun _ _ _ h => h) rfl (fun W' => by go_simp) ?_
        refine take_L 17 (v := .int .i64 u) rfl (by kernel_rfl) (by kernel_rfl) (by kernel_rfl) (by kernel_rfl) (fun _ _ _ h => h) rfl (fun W' hW' => by have zz : W'.cell? ⟨wr.heap.size, 3, none⟩ = some (.int .i64 u) := hW'.blk.cell 3; go_simp) hS0 ?_
        refine one_L 3 (by kernel_rfl) rfl rfl fun K3 hK3 => ?_
        have HK3 := Lib.hid hK3
        clear hK3
        go_simp
        refine (KA1.out _).mono ?_
        rintro e W3 ⟨rfl, b3⟩
        have K3s := Lib.hid (hS0.below b3)
        clear b3 hS0
        have hS0 := K3s.out
        refine HK3.out _ _ (fun _ _ => hS0) ?_
        refine take_P 4 (v := .string (T ++ A1)) rfl (by kernel_rfl) (by kernel_rfl) (by kernel_rfl) (fun _ _ _ h => h) rfl (fun W' => by go_simp <;> omega) ?_
        refine take_P 5 (v := .string (T ++ A1 ++ ⟨#[32]⟩)) rfl (by kernel_rfl) (by kernel_rfl) (by kernel_rfl) (fun _ _ _ h => h) rfl (fun W' => by go_simp <;> omega) ?_
        refine one_L 8 (by kernel_rfl) rfl rfl fun K8 hK8 => ?_
        have HK8 := Lib.hid hK8
        clear hK8
        go_simp
        refine (KA2.out _).mono ?_
        rintro e W8 ⟨rfl, b8⟩
        have K8s := Lib.hid (hS0.below b8)
        clear b8 hS0
        have hS0 := K8s.out
        refine HK8.out _ _ (fun _ _ => hS0) ?_
        refine take_P 9 (v := .string (T ++ A1 ++ ⟨#[32]⟩ ++ A2)) rfl (by kernel_rfl) (by kernel_rfl) (by kernel_rfl) (fun _ _ _ h => h) rfl (fun W' => by go_simp <;> omega) ?_
        refine take_P 10 (v := .string (T ++ A1 ++ ⟨#[32]⟩ ++ A2 ++ ⟨#[32]⟩)) rfl (by kernel_rfl) (by kernel_rfl) (by kernel_rfl) (fun _ _ _ h => h) rfl (fun W' => by go_simp <;> omega) ?_
        refine one_L 13 (by kernel_rfl) rfl rfl fun K13 hK13 => ?_
        have HK13 := Lib.hid hK13
        clear hK13
        go_simp
        refine (KA3.out _).mono ?_
        rintro e W13 ⟨rfl, b13⟩
        have K13s := Lib.hid (hS0.below b13)
        clear b13 hS0
        have hS0 := K13s.out
        refine HK13.out _ _ (fun _ _ => hS0) ?_
        refine take_P 14 (v := .string (T ++ A1 ++ ⟨#[32]⟩ ++ A2 ++ ⟨#[32]⟩ ++ A3)) rfl (by kernel_rfl) (by kernel_rfl) (by kernel_rfl) (fun _ _ _ h => h) rfl (fun W' => by go_simp <;> omega) ?_
        refine take_P 15 (v := .string (T ++ A1 ++ ⟨#[32]⟩ ++ A2 ++ ⟨#[32]⟩ ++ A3 ++ ⟨#[32]⟩)) rfl (by kernel_rfl) (by kernel_rfl) (by kernel_rfl) (fun _ _ _ h => h) rfl (fun W' => by go_simp <;> omega) ?_
        refine one_L 18 (by kernel_rfl) rfl rfl fun K18 hK18 => ?_
        have HK18 := Lib.hid hK18
        clear hK18
        go_simp
        refine (KA4.out _).mono ?_
        rintro e W18 ⟨rfl, b18⟩
        have K18s := Lib.hid (hS0.below b18)
        clear b18 hS0
        have hS0 := K18s.out
        refine HK18.out _ _ (fun _ _ => hS0) ?_
        refine take_P 19 (v := .string (T ++ A1 ++ ⟨#[32]⟩ ++ A2 ++ ⟨#[32]⟩ ++ A3 ++ ⟨#[32]⟩ ++ A4)) rfl (by kernel_rfl) (by kernel_rfl) (by kernel_rfl) (fun _ _ _ h => h) rfl (fun W' => by go_simp <;> omega) ?_
        refine take_P 20 (v := .string (T ++ A1 ++ ⟨#[32]⟩ ++ A2 ++ ⟨#[32]⟩ ++ A3 ++ ⟨#[32]⟩ ++ A4 ++ ⟨#[10]⟩)) rfl (by kernel_rfl) (by kernel_rfl) (by kernel_rfl) (fun _ _ _ h => h) rfl (fun W' => by go_simp <;> omega) ?_
        refine one_L 21 (by kernel_rfl) rfl rfl fun K21 hK21 => ?_
        have HK21 := Lib.hid hK21
        clear hK21
        go_simp
        have FF := Lib.hid hS0.bel
        have HS4 := Lib.hid hS0
        clear hS0
        refine HK21.out _ _ (fun _ _ => HS4.out) ?_
        refine done_L (by kernel_rfl) ?_ _
        clear HK3 HK8 HK13 HK18 HK21
        go_simp
        go_wp2_with fail
        go_roundw
        case rel => exact ⟨k + 1, by omega, by go_num, by first | rfl | rw [HT.out], FF.out⟩
        case measure => simp [intOf]; omega
      · obtain rfl : k = n := by omega
        have e1 : decide (k < k) = false := by simp
        have ht : l.take k = l := List.take_of_length_le (by have := HLN.out; omega)
        rw [ht]
        have BEL := Lib.hid bel
        clear ht bel
        go_wp2_with fail
        go_ret
        exact ⟨by rw [R.out]; rfl, BEL.out⟩
end Go.Proofs.YtlpmbjgimllmgaaDoor
