/-
  cncref33.Format: the text of a list of events. Any list of at most 2,000 events of kinds 1 to 13.
-/
import Derived.Test.YtkafmpgihhnhdaaDoorFormat33
import Derived.Test.YtkafmpgihhnhdaaDoorDec33
namespace Go.Proofs.YtkafmpgihhnhdaaDoor
open Go Go.RowKit
set_option linter.unusedVariables false

set_option maxRecDepth 100000 in
set_option maxHeartbeats 2000000 in
theorem rformat_any (a : Option Addr) (c : Nat) (l : List Ev) (w : World) (h : EvsAt w a l) (hn : l.length ≤ 2000) (hok : ∀ e ∈ l, evOK e) (hE : Env w) :
    Calls Tryd.prog 15 #[.slice a l.length c] w fun e w' => e = .returned (.string (mkB (fmtL l))) ∧ Below w.heap.size w w' := by
  obtain ⟨n, hln⟩ : ∃ n, l.length = n := ⟨_, rfl⟩
  have HG := Lib.hid (fun k (hk : k < n) => (⟨l[k]'(by omega), List.getElem?_eq_getElem _⟩ : ∃ x, l[k]? = some x))
  have HLN := Lib.hid hln
  have H := Lib.hid h
  have HOK := Lib.hid hok
  have HE := Lib.hid hE
  have hlow := hE.low
  rw [hln]
  rw [hln] at hn
  clear hln h hok hE
  go_enter Tryd.func15, Tryd.ntmps15
  go_wp2_with fail
  go_loopw [3, 8] (fun s3 s8 wr => ∃ k : Nat, k ≤ n ∧ s8 = .int .i64 k ∧ s3 = .string (mkB (fmtL (l.take k))) ∧ Below w.heap.size w wr)
    (fun _ s8 _ => n - (intOf s8).toNat)
  case atStart => exact ⟨0, by omega, rfl, rfl, Below.refl _ _⟩
  case round =>
    obtain ⟨k, hk, rfl, rfl, bel⟩ := hrel
    have hsz := bel.size
    by_cases hlt : k < n
    · obtain ⟨x, hx⟩ := HG.out k hlt
      have e1 : decide (k < n) = true := by simpa using hlt
      obtain ⟨b, o, rfl, _, hc⟩ := H.out.below bel k x hx
      have hxok := HOK.out x (List.mem_of_getElem? hx)
      have hts := take_snoc hx
      have hfl : (fmtL (l.take k)).length ≤ 33 * k := by
        have := fmtL_len (l := l.take k) fun e he => HOK.out e (List.mem_of_mem_take he)
        rw [List.length_take] at this
        omega
      obtain ⟨cy, kd, nn⟩ := x
      obtain ⟨o1, o2, o3, o4⟩ := hxok
      simp only at o1 o2 o3 o4
      obtain ⟨i, rfl⟩ : ∃ i : Nat, kd = (i : Int) + 1 := ⟨(kd - 1).toNat, by omega⟩
      have hi : i < 13 := by omega
      have c0 := hc 0 _ rfl
      have c1 := hc 1 _ rfl
      have c2 := hc 2 _ rfl
      simp only [Nat.add_zero] at c0 c1 c2
      have i1 : (0 : Int) ≤ (k : Int) := by omega
      have i2 : (k : Int) < (n : Int) := by omega
      have hS : FS w.heap.size wr.heap.size cy ((i : Int) + 1) nn w (wr.alloc (.cells #[.int .i64 cy, .int .i64 ((i : Int) + 1), .int .i64 nn] 28)) :=
        ⟨(HE.out.below bel hlow).below ((Below.refl wr.heap.size wr).alloc (Nat.le_refl _) _) (by omega), Blk.new wr _ _, bel.alloc (by omega) _, Nat.le_refl _⟩
      have HS := Lib.hid hS
      have HTS := Lib.hid hts
      have O1 := Lib.hid o1
      have O2 := Lib.hid o2
      clear hS hc hx bel hts o1 o2
      obtain ⟨A1, hA1⟩ : ∃ A, mkB (Lib.itoa cy) = A := ⟨_, rfl⟩
      obtain ⟨A2, hA2⟩ : ∃ A, nmE i = A := ⟨_, rfl⟩
      obtain ⟨A3, hA3⟩ : ∃ A, mkB (Lib.itoa nn) = A := ⟨_, rfl⟩
      obtain ⟨T, hT⟩ : ∃ A, mkB (fmtL (l.take k)) = A := ⟨_, rfl⟩
      have z1 : A1.size ≤ 11 := by rw [← hA1, mkB_size]; exact itoa_most (k := 9) O1.out
      have z2 : A2.size ≤ 8 := by rw [← hA2]; exact nmE_size i
      have z3 : A3.size ≤ 11 := by rw [← hA3, mkB_size]; exact itoa_most (k := 9) O2.out
      have zT : T.size ≤ 70000 := by rw [← hT, mkB_size]; omega
      have HT : T ++ (A1 ++ ⟨#[32]⟩ ++ A2 ++ ⟨#[32]⟩ ++ A3 ++ ⟨#[10]⟩) = mkB (fmtL (l.take (k + 1))) := by
        rw [HTS.out, fmtL_snoc]
        have : bl (T ++ (A1 ++ ⟨#[32]⟩ ++ A2 ++ ⟨#[32]⟩ ++ A3 ++ ⟨#[10]⟩)) = fmtL (l.take k) ++ fmtE ⟨cy, (i : Int) + 1, nn⟩ := by
          simp only [bl_append, ← hA1, ← hA2, ← hA3, ← hT, bl_mkB]
          unfold fmtE nmE
          rw [bl_mkB, show ((i : Int) + 1 - 1).toNat = i by omega]
          rfl
        rw [← this, mkB_bl]
      have HT := Lib.hid HT
      have KI := Lib.hid (fun W => (hA1 ▸ dec_any cy O1.out W : Calls Tryd.prog 28 #[.int .i64 cy] W fun e w' => e = .returned (.string A1) ∧ Below W.heap.size W w'))
      have KJ := Lib.hid (fun W => (hA3 ▸ dec_any nn O2.out W : Calls Tryd.prog 28 #[.int .i64 nn] W fun e w' => e = .returned (.string A3) ∧ Below W.heap.size W w'))
      have KN := Lib.hid (fun W => (hA2 ▸ rname_any i hi W : Calls Tryd.prog 29 #[.int .i64 ((i : Int) + 1)] W fun e w' => e = .returned (.string A2) ∧ Below W.heap.size W w'))
      rw [hT]
      clear hA1 hA2 hA3 hT hfl
      go_wp2_with fail
      have hS0 := HS.out.below (below_drewN (Below.refl _ _) 1)
      refine region_L (FS w.heap.size wr.heap.size cy ((i : Int) + 1) nn w) [] (by kernel_rfl) ?_
      refine take_P 0 (v := .string T) rfl (by kernel_rfl) (by kernel_rfl) (by kernel_rfl) (fun _ _ _ h => h) rfl (fun W' => by go_simp) ?_
      refine take_P 1 (v := .pointer (some ⟨wr.heap.size, 0, none⟩)) rfl (by kernel_rfl) (by kernel_rfl) (by kernel_rfl) (fun _ _ _ h => h) rfl (fun W' => by go_simp) ?_
      refine take_L 2 (v := .int .i64 cy) rfl (by kernel_rfl) (by kernel_rfl) (by kernel_rfl) (by kernel_rfl) (fun _ _ _ h => h) rfl (fun W' hW' => by have z : W'.cell? ⟨wr.heap.size, 0, none⟩ = some (.int .i64 cy) := hW'.blk.cell 0; go_simp) hS0 ?_
      refine take_P 5 (v := .pointer (some ⟨wr.heap.size, 1, none⟩)) rfl (by kernel_rfl) (by kernel_rfl) (by kernel_rfl) (fun _ _ _ h => h) rfl (fun W' => by go_simp) ?_
      refine take_L 6 (v := .int .i64 ((i : Int) + 1)) rfl (by kernel_rfl) (by kernel_rfl) (by kernel_rfl) (by kernel_rfl) (fun _ _ _ h => h) rfl (fun W' hW' => by have z : W'.cell? ⟨wr.heap.size, 1, none⟩ = some (.int .i64 ((i : Int) + 1)) := hW'.blk.cell 1; go_simp) hS0 ?_
      refine take_P 10 (v := .pointer (some ⟨wr.heap.size, 2, none⟩)) rfl (by kernel_rfl) (by kernel_rfl) (by kernel_rfl) (fun _ _ _ h => h) rfl (fun W' => by go_simp) ?_
      refine take_L 11 (v := .int .i64 nn) rfl (by kernel_rfl) (by kernel_rfl) (by kernel_rfl) (by kernel_rfl) (fun _ _ _ h => h) rfl (fun W' hW' => by have z : W'.cell? ⟨wr.heap.size, 2, none⟩ = some (.int .i64 nn) := hW'.blk.cell 2; go_simp) hS0 ?_
      refine one_L 3 (by kernel_rfl) rfl rfl fun K3 hK3 => ?_
      have HK3 := Lib.hid hK3
      clear hK3
      go_simp
      refine (KI.out _).mono ?_
      rintro e W2 ⟨rfl, b2⟩
      have K2 := Lib.hid (hS0.below b2)
      clear b2 hS0
      have hS0 := K2.out
      refine HK3.out _ _ (fun _ _ => hS0) ?_
      refine take_P 4 (v := .string (A1 ++ ⟨#[32]⟩)) rfl (by kernel_rfl) (by kernel_rfl) (by kernel_rfl) (fun _ _ _ h => h) rfl (fun W' => by go_simp <;> omega) ?_
      refine one_L 7 (by kernel_rfl) rfl rfl fun K7 hK7 => ?_
      have HK7 := Lib.hid hK7
      clear hK7
      go_simp
      refine (KN.out _).mono ?_
      rintro e W3 ⟨rfl, b3⟩
      have K3 := Lib.hid (hS0.below b3)
      clear b3 hS0
      have hS0 := K3.out
      refine HK7.out _ _ (fun _ _ => hS0) ?_
      refine take_P 8 (v := .string (A1 ++ ⟨#[32]⟩ ++ A2)) rfl (by kernel_rfl) (by kernel_rfl) (by kernel_rfl) (fun _ _ _ h => h) rfl (fun W' => by go_simp <;> omega) ?_
      refine take_P 9 (v := .string (A1 ++ ⟨#[32]⟩ ++ A2 ++ ⟨#[32]⟩)) rfl (by kernel_rfl) (by kernel_rfl) (by kernel_rfl) (fun _ _ _ h => h) rfl (fun W' => by go_simp <;> omega) ?_
      refine one_L 12 (by kernel_rfl) rfl rfl fun K12 hK12 => ?_
      have HK12 := Lib.hid hK12
      clear hK12
      go_simp
      refine (KJ.out _).mono ?_
      rintro e W4 ⟨rfl, b4⟩
      have K4 := Lib.hid (hS0.below b4)
      clear b4 hS0
      have hS0 := K4.out
      refine HK12.out _ _ (fun _ _ => hS0) ?_
      refine take_P 13 (v := .string (A1 ++ ⟨#[32]⟩ ++ A2 ++ ⟨#[32]⟩ ++ A3)) rfl (by kernel_rfl) (by kernel_rfl) (by kernel_rfl) (fun _ _ _ h => h) rfl (fun W' => by go_simp <;> omega) ?_
      refine take_P 14 (v := .string (A1 ++ ⟨#[32]⟩ ++ A2 ++ ⟨#[32]⟩ ++ A3 ++ ⟨#[10]⟩)) rfl (by kernel_rfl) (by kernel_rfl) (by kernel_rfl) (fun _ _ _ h => h) rfl (fun W' => by go_simp <;> omega) ?_
      refine take_P 15 (v := .string (T ++ (A1 ++ ⟨#[32]⟩ ++ A2 ++ ⟨#[32]⟩ ++ A3 ++ ⟨#[10]⟩))) rfl (by kernel_rfl) (by kernel_rfl) (by kernel_rfl) (fun _ _ _ h => h) rfl (fun W' => by go_simp <;> omega) ?_
      refine one_L 16 (by kernel_rfl) rfl rfl fun K16 hK16 => ?_
      have HK16 := Lib.hid hK16
      clear hK16
      go_simp
      have FF := Lib.hid hS0.bel
      have HS4 := Lib.hid hS0
      clear hS0
      refine HK16.out _ _ (fun _ _ => HS4.out) ?_
      refine done_L (by kernel_rfl) ?_ _
      clear HK3 HK7 HK12 HK16
      go_simp
      go_wp2_with fail
      go_roundw
      case rel => exact ⟨k + 1, by omega, by go_num, by first | rfl | rw [HT.out], FF.out⟩
      case measure => simp [intOf]; omega
    · obtain rfl : k = n := by omega
      have e1 : decide (k < k) = false := by simp
      have ht : l.take k = l := List.take_of_length_le (by have := HLN.out; omega)
      rw [ht]
      have BEL := Lib.hid bel
      clear ht bel
      go_wp2_with fail
      go_ret
      exact ⟨rfl, BEL.out⟩
end Go.Proofs.YtkafmpgihhnhdaaDoor
