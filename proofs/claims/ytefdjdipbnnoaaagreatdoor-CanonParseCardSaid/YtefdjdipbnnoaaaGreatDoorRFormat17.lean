/-
  cncref17.Format: any list.
-/
import Derived.Test.YtefdjdipbnnoaaaGreatDoorRFld17
import Derived.Test.YtefdjdipbnnoaaaGreatDoorCheck17
namespace Go.Proofs.YtefdjdipbnnoaaaGreatDoor
open Go Go.RowKit
set_option linter.unusedVariables false
set_option linter.unusedSimpArgs false

/-- What stands in the world while a name is looked up. -/
structure GS (B : Nat) (a : Option Addr) (l : List It) (w W : World) : Prop where
  its : ItsAt W a l
  bel : Below B w W
theorem GS.below {B : Nat} {a : Option Addr} {l : List It} {w W W' : World} (h : GS B a l w W) (hb : Below W.heap.size W W') (hB : B ≤ w.heap.size) : GS B a l w W' :=
  ⟨h.its.below hb, h.bel.trans (hb.mono (by have := h.bel.size; omega))⟩
theorem bl_pre (T KN : List UInt8) : mkB T ++ mkB KN = mkB (T ++ KN) := by rw [← mkB_bl (mkB T ++ mkB KN), bl_append, bl_mkB, bl_mkB]
attribute [local go_sem] itA_0 itA_1 itA_2 itA_3 itA_4 itA_5 itA_6 itA_7 itA_8 itA_9 itA_10 itA_11 itA_12 itA_13 itA_14 itA_15 itA_16 itA_17 itA_18 itA_19 itA_20 itA_21
set_option maxRecDepth 100000 in
set_option maxHeartbeats 8000000 in
theorem rformat_any (a : Option Addr) (c : Nat) (l : List It) (w : World) (h : ItsAt w a l) (hn : l.length ≤ 4000) :
    Calls Tryz.prog 17 #[.slice a l.length c] w fun e w' => e = .returned (.string (mkB (formatI l))) ∧ Below w.heap.size w w' := by
  obtain ⟨n, hln⟩ : ∃ n, l.length = n := ⟨_, rfl⟩
  have HLN := Lib.hid hln
  have H0 := Lib.hid h
  obtain ⟨R, hR⟩ : ∃ R, formatI l = R := ⟨_, rfl⟩
  have HR := Lib.hid hR
  rw [hln] at hn ⊢
  rw [hR]
  have HG := Lib.hid (fun k (hk : k < n) => (⟨l[k]'(by omega), List.getElem?_eq_getElem _⟩ : ∃ x, l[k]? = some x))
  clear h hln hR
  go_enter Tryz.func17, Tryz.ntmps17
  go_wp2_with fail
  go_loopw [3, 4] (fun s3 s4 wr => ∃ k : Nat, k ≤ n ∧ s4 = .int .i64 k ∧ s3 = .string (mkB (fmtIs (l.take k))) ∧ (∀ t ∈ l.take k, validI t = true) ∧ Below w.heap.size w wr)
    (fun _ s4 _ => n - (intOf s4).toNat)
  case atStart => exact ⟨0, by omega, rfl, rfl, by simp, Below.refl _ _⟩
  case round =>
    obtain ⟨k, hk, rfl, rfl, hval, bel⟩ := hrel
    have hsz := bel.size
    by_cases hlt : k < n
    · obtain ⟨x, hx⟩ := HG.out k hlt
      have e1 : decide (k < n) = true := decide_eq_true hlt
      have IT := H0.out.below bel
      have HIT := Lib.hid IT
      obtain ⟨b, o, rfl, _, hc⟩ := IT k x hx
      have HCX := Lib.hid hc
      have HX := Lib.hid hx
      have HVAL := Lib.hid hval
      have i1 : (0 : Int) ≤ (k : Int) := by omega
      have i2 : (k : Int) < (n : Int) := by omega
      have KV := Lib.hid (rvalid_v x wr)
      obtain ⟨vl, hvl⟩ : ∃ b, validI x = b := ⟨_, rfl⟩
      rw [hvl] at KV
      have HVL := Lib.hid hvl
      have BEL := Lib.hid bel
      clear hvl hc hx hval bel IT
      go_wp2_with ((with_reducible refine go_loadM (.tmp 15) b (o + k * 22) x (by with_unfolding_all rfl) HCX.out ?_))
      refine KV.out.mono ?_
      rintro e w6 ⟨rfl, b6⟩
      have B6 := Lib.hid (BEL.out.trans (b6.mono hsz))
      have IT6 := Lib.hid (HIT.out.below b6)
      have sz6 := b6.size
      clear b6 KV BEL
      cases vl
      · have RE : R = [] := by
          rw [← HR.out]
          unfold formatI
          rw [if_neg]
          intro hall
          have := List.all_eq_true.1 hall x (List.mem_of_getElem? HX.out)
          rw [HVL.out] at this
          cases this
        go_wp2_with fail
        go_ret
        exact ⟨by rw [RE]; rfl, B6.out⟩
      have hkd := validI_kind HVL.out
      obtain ⟨kd, hkd2⟩ : ∃ kd : Nat, x.kind = (kd : Int) := ⟨x.kind.toNat, by omega⟩
      have HNR := Lib.hid (nums_rd HVL.out)
      rw [hkd2] at hkd
      obtain ⟨KN, hKN⟩ : ∃ KN, kname kd = KN := ⟨_, rfl⟩
      have hKl : KN.length ≤ 8 := by rw [← hKN]; exact kname_len kd
      have HKN := Lib.hid (show kname x.kind.toNat = KN by rw [← hKN, hkd2]; rfl)
      have HKC := Lib.hid (show namesC[kd]? = some (.string (mkB KN)) by rw [← hKN]; exact namesC_at kd (by omega))
      obtain ⟨T, hT⟩ : ∃ T, fmtIs (l.take k) = T := ⟨_, rfl⟩
      have hTl : T.length ≤ 880000 := by
        rw [← hT]
        have := fmtIs_len (l := l.take k) fun t ht => HVAL.out t ht
        rw [List.length_take] at this
        omega
      have HTE := Lib.hid hT
      rw [hT]
      have ik1 : (0 : Int) ≤ (kd : Int) := by omega
      have ik2 : (kd : Int) < 15 := by omega
      have ik3 : kd < 15 := by omega
      have HKD := Lib.hid hkd2
      have g1 : ¬ (mkB T).size + (mkB KN).size > 9223372036854775807 := by rw [mkB_size, mkB_size]; omega
      clear hT hKN hkd2 hkd
      go_upto_region 7 with fail
      have hS0 : GS w.heap.size (some ⟨b, o, none⟩) l w w6.drew := ⟨fun i t hi => by obtain ⟨b', o', e1, e2, e3⟩ := IT6.out i t hi; exact ⟨b', o', e1, e2, e3⟩, B6.out.drew⟩
      refine region_L (GS w.heap.size (some ⟨b, o, none⟩) l w) [] (by kernel_rfl) ?_
      refine take_P 0 (v := .string (mkB T)) rfl (by kernel_rfl) (by kernel_rfl) (by kernel_rfl) (fun _ _ _ h => h) rfl (fun W' => by go_simp) ?_
      refine take_P 2 (v := .slice (some ⟨b, o, none⟩) n c) rfl (by kernel_rfl) (by kernel_rfl) (by kernel_rfl) (fun _ _ _ h => h) rfl (fun W' => by go_simp) ?_
      refine take_P 3 (v := .int .i64 k) rfl (by kernel_rfl) (by kernel_rfl) (by kernel_rfl) (fun _ _ _ h => h) rfl (fun W' => by go_simp) ?_
      refine take_P 4 (v := .pointer (some ⟨b, o + k * 22, none⟩)) rfl (by kernel_rfl) (by kernel_rfl) (by kernel_rfl) (fun _ _ _ h => h) rfl (fun W' => by go_simp) ?_
      refine take_P 5 (v := .pointer (some ⟨b, o + k * 22, none⟩)) rfl (by kernel_rfl) (by kernel_rfl) (by kernel_rfl) (fun _ _ _ h => h) rfl (fun W' => by go_simp) ?_
      refine take_L 6 (v := .int .i64 kd) rfl (by kernel_rfl) (by kernel_rfl) (by kernel_rfl) (by kernel_rfl) (fun _ _ _ h => h) rfl (fun W' hW' => by have z : W'.cell? ⟨b, o + k * 22, none⟩ = some (.int .i64 kd) := (by obtain ⟨b', o', e1, _, e3⟩ := hW'.its k x HX.out; injection e1 with e1; injection e1 with e1 e2; subst e1 e2; rw [← HKD.out]; exact e3 0 _ rfl); go_simp) hS0 ?_
      refine one_L 1 (by kernel_rfl) rfl rfl fun K1 hK1 => ?_
      have HK1 := Lib.hid hK1
      clear hK1
      go_simp
      refine (names_any _).mono ?_
      rintro e W1 ⟨rfl, hb1, b1⟩
      have K1s := Lib.hid (hS0.below b1 (Nat.le_refl _))
      have HB1 := Lib.hid hb1
      clear b1 hS0 hb1
      have hS0 := K1s.out
      refine HK1.out _ _ (fun _ _ => hS0) ?_
      have cn : W1.cell? ⟨w6.heap.size, kd, none⟩ = some (.string (mkB KN)) := HB1.out.cell' kd HKC.out
      refine take_P 7 (v := .pointer (some ⟨w6.heap.size, kd, none⟩)) rfl (by kernel_rfl) (by kernel_rfl) (by kernel_rfl) (fun _ _ _ h => h) rfl (fun W' => by go_simp) ?_
      refine one_L 8 (by kernel_rfl) rfl rfl fun K8 hK8 => ?_
      have HK8 := Lib.hid hK8
      clear hK8
      go_simp
      refine HK8.out _ _ (fun _ _ => hS0) ?_
      refine take_P 9 (v := .string (mkB (T ++ KN))) rfl (by kernel_rfl) (by kernel_rfl) (by kernel_rfl) (fun _ _ _ h => h) rfl (fun W' => by go_simp <;> (try omega) <;> (try rw [bl_pre])) ?_
      refine one_L 10 (by kernel_rfl) rfl rfl fun K10 hK10 => ?_
      have HK10 := Lib.hid hK10
      clear hK10
      go_simp
      have B7 := Lib.hid hS0.bel
      have IT7 := Lib.hid hS0.its
      refine HK10.out _ _ (fun _ _ => hS0) ?_
      refine done_L (by kernel_rfl) ?_ _
      clear HK1 HK8 HK10 hS0 K1s cn HB1 HKC HKD
      go_simp
      obtain ⟨b', o', e1', _, hc7⟩ := IT7.out k x HX.out
      injection e1' with e1'
      injection e1' with e2' e3'
      subst e2' e3'
      have HC7 := Lib.hid hc7
      clear hc7 IT6 B6
      have sz7 := B7.out.size
      go_wp2_with ((with_reducible refine go_loadM (.tmp 31) b (o + k * 22) x (by with_unfolding_all rfl) HC7.out ?_))
      refine (fields_any x W1).mono ?_
      rintro e W2 ⟨G, rfl, hG, b2⟩
      have B8 := Lib.hid (B7.out.trans (b2.mono sz7))
      have HG8 := Lib.hid hG
      clear hG b2 B7 IT7 HC7
      go_wp2_with fail
      go_loopw [3, 6] (fun s3 s6 wr => ∃ j : Nat, j ≤ 21 ∧ s6 = .int .i64 j ∧ s3 = .string (mkB (T ++ KN ++ preN ((numsI x).take j))) ∧ Blk wr G 3 (numsA x) ∧ Below w.heap.size w wr)
        (fun _ s6 _ => 21 - (intOf s6).toNat)
      case atStart => exact ⟨0, by omega, rfl, by simp [preN], HG8.out, B8.out⟩
      case round =>
        obtain ⟨j, hj, rfl, rfl, hblk, bel⟩ := hrel
        have HBK := Lib.hid hblk
        have BEL := Lib.hid bel
        have hszr := bel.size
        have lG := hblk.lt
        have hlen : (T ++ KN ++ preN ((numsI x).take j)).length ≤ 900000 := by
          have h2 : (preN ((numsI x).take j)).length ≤ 10 * ((numsI x).take j).length := preN_len fun n hn => HNR.out n (List.mem_of_mem_take hn)
          have h3 : (numsI x).length = 21 := rfl
          rw [List.length_take] at h2
          simp only [List.length_append]
          omega
        obtain ⟨S, hS⟩ : ∃ S, T ++ KN ++ preN ((numsI x).take j) = S := ⟨_, rfl⟩
        have HSE := Lib.hid hS
        rw [hS] at hlen ⊢
        clear hblk bel hS
        by_cases hj21 : j < 21
        · have dj : decide (j < 21) = true := decide_eq_true hj21
          have dj' : decide ((j : Int) < 21) = true := decide_eq_true (by omega)
          have ij1 : (0 : Int) ≤ (j : Int) := by omega
          have ij2 : (j : Int) < 21 := by omega
          obtain ⟨nv, hnv⟩ : ∃ nv, (numsI x)[j]? = some nv := ⟨_, List.getElem?_eq_getElem (by show j < 21; exact hj21)⟩
          have gk : wr.cell? ⟨G, j, none⟩ = some (.int .i64 nv) := HBK.out.cell' j (by rw [numsA_eq]; simp [hnv])
          have hrd := HNR.out nv (List.mem_of_getElem? hnv)
          have KNU := Lib.hid (rnum_any nv (by obtain ⟨q1, q2⟩ := hrd; omega) wr)
          have hil : (Lib.itoa nv).length ≤ 9 := hrd.itoa
          have HNV := Lib.hid hnv
          have g1 : ¬ (mkB S).size + (⟨#[32]⟩ : ByteArray).size > 9223372036854775807 := by rw [mkB_size, show (⟨#[32]⟩ : ByteArray).size = 1 from rfl]; omega
          have g2 : ¬ (mkB S ++ (⟨#[32]⟩ : ByteArray)).size + (mkB (Lib.itoa nv)).size > 9223372036854775807 := by rw [ByteArray.size_append, mkB_size, mkB_size, show (⟨#[32]⟩ : ByteArray).size = 1 from rfl]; omega
          have HN := Lib.hid (show mkB S ++ (⟨#[32]⟩ : ByteArray) ++ mkB (Lib.itoa nv) = mkB (T ++ KN ++ preN ((numsI x).take (j + 1))) by
            rw [take_snoc HNV.out, preN_snoc, show (⟨#[32]⟩ : ByteArray) = mkB [32] from rfl, bl_pre, bl_pre, ← HSE.out]
            simp)
          clear hnv hrd
          go_wp2_with fail
          refine KNU.out.mono ?_
          rintro e w5 ⟨rfl, b5⟩
          have HB5 := Lib.hid (HBK.out.below b5 lG)
          have BE5 := Lib.hid (BEL.out.trans (b5.mono hszr))
          clear b5 KNU
          go_wp2_with fail
          go_roundw
          case rel => exact ⟨j + 1, by omega, by go_num, by rw [HN.out], HB5.out, BE5.out⟩
          case measure => simp [intOf]; omega
        · obtain rfl : j = 21 := by omega
          have g1 : ¬ (mkB S).size + (⟨#[10]⟩ : ByteArray).size > 9223372036854775807 := by rw [mkB_size, show (⟨#[10]⟩ : ByteArray).size = 1 from rfl]; omega
          have HN := Lib.hid (show mkB S ++ (⟨#[10]⟩ : ByteArray) = mkB (fmtIs (l.take (k + 1))) by
            rw [take_snoc HX.out, fmtIs_snoc, HTE.out, show (⟨#[10]⟩ : ByteArray) = mkB [10] from rfl, bl_pre, ← HSE.out]
            unfold fmtI
            rw [HKN.out, List.take_of_length_le (by show 21 ≤ 21; omega)]
            simp)
          go_wp2_with fail
          go_roundw
          case rel => exact ⟨k + 1, by omega, by go_num, by rw [HN.out], fun t ht => by
            rw [take_snoc HX.out] at ht
            rcases List.mem_append.1 ht with ht | ht
            · exact HVAL.out t ht
            · simp at ht
              subst ht
              exact HVL.out, BEL.out⟩
          case measure => simp [intOf]; omega
    · obtain rfl : k = n := by omega
      have e1 : decide (k < k) = false := by simp
      have ht : l.take k = l := List.take_of_length_le (by have := HLN.out; omega)
      rw [ht] at hval ⊢
      have RE : R = fmtIs l := by
        rw [← HR.out]
        unfold formatI
        rw [if_pos (List.all_eq_true.2 hval)]
      have RE := Lib.hid RE
      have BEL := Lib.hid bel
      clear ht hval bel
      go_wp2_with fail
      go_ret
      exact ⟨by rw [RE.out]; rfl, BEL.out⟩
end Go.Proofs.YtefdjdipbnnoaaaGreatDoor
