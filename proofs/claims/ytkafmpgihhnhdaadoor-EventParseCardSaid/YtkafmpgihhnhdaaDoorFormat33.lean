/-
  event.Format: the text of a list of events. Any list of events of kinds 1 to 13.
-/
import Derived.Test.YtkafmpgihhnhdaaDoorParse33
import Derived.Test.YtkafmpgihhnhdaaDoorBldr33
import Derived.Lib.AppendIntMem
namespace Go.Proofs.YtkafmpgihhnhdaaDoor
open Go Go.RowKit
set_option linter.unusedVariables false

theorem isB_below {B b : Nat} {bs : List Value} {W W' : World} (h : IsB B b bs W) (hb : Below W.heap.size W W') : IsB B b bs W' := by
  have one : ∀ p, Lib.BuilderAt 50 5 B b p bs W → Lib.BuilderAt 50 5 B b p bs W' := fun p h => by
    have hlt := h.lt
    obtain ⟨hB, v, hv, hown, hne⟩ := h
    exact ⟨hB, v, (hb.block b hlt).trans hv, hown.kept (grown_of_below hb) (Classical.em _), hne⟩
  exact h.imp (one _) (one _)
theorem itoa_run (n : Int) (h : n.natAbs < 10 ^ 10) (w : World) (hE : Env w) : Calls Tryd.prog 26 #[.int .i64 n] w fun e w' => e = .returned (.string (mkB (Lib.itoa n))) ∧ Below w.heap.size w w' := by
  have e10 : (10 : Nat) ^ 10 = 10000000000 := by decide
  refine (Tryd.strconv_Itoa n (by omega) (by omega) w hE.pow).mono ?_
  rintro e w' ⟨rfl, k, os, rfl⟩
  exact ⟨rfl, Lib.below_grow _ w (Nat.le_refl _) k os⟩
theorem fmtL_snoc (l : List Ev) (e : Ev) : fmtL (l ++ [e]) = fmtL l ++ fmtE e := by simp [fmtL]
theorem take_snoc {l : List Ev} {k : Nat} {x : Ev} (h : l[k]? = some x) : l.take (k + 1) = l.take k ++ [x] := by
  obtain ⟨hl, rfl⟩ := List.getElem?_eq_some_iff.1 h
  rw [List.take_succ_eq_append_getElem hl]
/-- What stands in the world while an event is written. -/
structure FS (B g : Nat) (cy kd nn : Int) (w W : World) : Prop where
  env : Env W
  blk : Blk W g 28 #[.int .i64 cy, .int .i64 kd, .int .i64 nn]
  bel : Below B w W
  base : B ≤ w.heap.size
theorem FS.below {B g : Nat} {cy kd nn : Int} {w W W' : World} (h : FS B g cy kd nn w W) (hb : Below W.heap.size W W') : FS B g cy kd nn w W' :=
  ⟨h.env.below hb h.env.low, h.blk.below hb h.blk.lt, h.bel.trans (hb.mono (by have := h.bel.size; have := h.base; omega)), h.base⟩
set_option maxRecDepth 100000 in
set_option maxHeartbeats 2000000 in
theorem format_any (a : Option Addr) (c : Nat) (l : List Ev) (w : World) (h : EvsAt w a l) (hn : l.length ≤ 2000) (hok : ∀ e ∈ l, evOK e) (hE : Env w) :
    Calls Tryd.prog 14 #[.slice a l.length c] w fun e w' => e = .returned (.string (mkB (fmtL l))) ∧ Below w.heap.size w w' := by
  obtain ⟨n, hln⟩ : ∃ n, l.length = n := ⟨_, rfl⟩
  have HG := Lib.hid (fun k (hk : k < n) => (⟨l[k]'(by omega), List.getElem?_eq_getElem _⟩ : ∃ x, l[k]? = some x))
  have HLN := Lib.hid hln
  have H := Lib.hid h
  have HOK := Lib.hid hok
  have HE := Lib.hid hE
  have hlow := hE.low
  have HB0 := Lib.hid (Lib.fresh_isBuilder 50 5 w)
  rw [hln]
  rw [hln] at hn
  clear hln h hok hE
  go_enter Tryd.func14, Tryd.ntmps14
  go_wp2_with fail
  go_loopw [8] (fun s8 wr => ∃ k : Nat, k ≤ n ∧ s8 = .int .i64 k ∧ IsB w.heap.size w.heap.size (Lib.byteCells (fmtL (l.take k))) wr ∧ w.heap.size < wr.heap.size ∧ Below w.heap.size w wr)
    (fun s8 _ => n - (intOf s8).toNat)
  case atStart => exact ⟨0, by omega, rfl, HB0.out, by show w.heap.size < (w.heap.push _).size; rw [Array.size_push]; omega, (Below.refl _ _).alloc (Nat.le_refl _) _⟩
  case round =>
    obtain ⟨k, hk, rfl, hB, hsz, bel⟩ := hrel
    by_cases hlt : k < n
    · obtain ⟨x, hx⟩ := HG.out k hlt
      have e1 : decide (k < n) = true := by simpa using hlt
      obtain ⟨b, o, rfl, _, hc⟩ := H.out.below bel k x hx
      have hxok := HOK.out x (List.mem_of_getElem? hx)
      have hts := take_snoc hx
      have hfl : (fmtL (l.take k)).length ≤ 33 * k := by
        have := fmtL_len (l := l.take k) fun e he => HOK.out e (List.mem_of_mem_take he)
        rw [List.length_take] at this
        omega
      obtain ⟨cy, kd, nn⟩ := x
      obtain ⟨o1, o2, o3, o4⟩ := hxok
      simp only at o1 o2 o3 o4
      obtain ⟨i, rfl⟩ : ∃ i : Nat, kd = (i : Int) + 1 := ⟨(kd - 1).toNat, by omega⟩
      have hi : i < 13 := by omega
      have c0 := hc 0 _ rfl
      have c1 := hc 1 _ rfl
      have c2 := hc 2 _ rfl
      simp only [Nat.add_zero] at c0 c1 c2
      have i1 : (0 : Int) ≤ (k : Int) := by omega
      have i2 : (k : Int) < (n : Int) := by omega
      have q1 : decide ((i : Int) + 1 < 1) = false := decide_eq_false (by omega)
      have q2 : decide (13 < (i : Int) + 1) = false := decide_eq_false (by omega)
      have hS : FS w.heap.size wr.heap.size cy ((i : Int) + 1) nn w (wr.alloc (.cells #[.int .i64 cy, .int .i64 ((i : Int) + 1), .int .i64 nn] 28)) :=
        ⟨(HE.out.below bel hlow).below ((Below.refl wr.heap.size wr).alloc (Nat.le_refl _) _) (by omega), Blk.new wr _ _, bel.alloc (by omega) _, Nat.le_refl _⟩
      have HS := Lib.hid hS
      have HBB := Lib.hid (isB_below (isB_below hB ((Below.refl wr.heap.size wr).alloc (Nat.le_refl _) (.cells #[.int .i64 cy, .int .i64 ((i : Int) + 1), .int .i64 nn] 28))) (below_drewN (Below.refl _ _) 1))
      have HTS := Lib.hid hts
      have O1 := Lib.hid o1
      have O2 := Lib.hid o2
      have HI := Lib.hid hi
      clear hS hc hx hB bel hts o1 o2
      obtain ⟨A1, hA1⟩ : ∃ A, mkB (Lib.itoa cy) = A := ⟨_, rfl⟩
      obtain ⟨A2, hA2⟩ : ∃ A, nmE i = A := ⟨_, rfl⟩
      obtain ⟨A3, hA3⟩ : ∃ A, mkB (Lib.itoa nn) = A := ⟨_, rfl⟩
      have z1 : A1.size ≤ 11 := by rw [← hA1, mkB_size]; exact itoa_most (k := 9) O1.out
      have z2 : A2.size ≤ 8 := by rw [← hA2]; exact nmE_size i
      have z3 : A3.size ≤ 11 := by rw [← hA3, mkB_size]; exact itoa_most (k := 9) O2.out
      have s32 : (⟨#[32]⟩ : ByteArray).size = 1 := rfl
      have s10 : (⟨#[10]⟩ : ByteArray).size = 1 := rfl
      have app : ∀ x y : ByteArray, (x ++ y).size = x.size + y.size := fun x y => ByteArray.size_append
      have g1 : ¬ A1.size + (⟨#[32]⟩ : ByteArray).size > 9223372036854775807 := by omega
      have g2 : ¬ (A1 ++ ⟨#[32]⟩).size + A2.size > 9223372036854775807 := by simp only [app]; omega
      have g3 : ¬ (A1 ++ ⟨#[32]⟩ ++ A2).size + (⟨#[32]⟩ : ByteArray).size > 9223372036854775807 := by simp only [app]; omega
      have g4 : ¬ (A1 ++ ⟨#[32]⟩ ++ A2 ++ ⟨#[32]⟩).size + A3.size > 9223372036854775807 := by simp only [app]; omega
      have g5 : ¬ (A1 ++ ⟨#[32]⟩ ++ A2 ++ ⟨#[32]⟩ ++ A3).size + (⟨#[10]⟩ : ByteArray).size > 9223372036854775807 := by simp only [app]; omega
      have g6 : (A1 ++ ⟨#[32]⟩ ++ A2 ++ ⟨#[32]⟩ ++ A3 ++ ⟨#[10]⟩).size ≤ 100 := by simp only [app]; omega
      have G6 := Lib.hid g6
      have HT : bl (A1 ++ ⟨#[32]⟩ ++ A2 ++ ⟨#[32]⟩ ++ A3 ++ ⟨#[10]⟩) = fmtE ⟨cy, (i : Int) + 1, nn⟩ := by
        simp only [bl_append, ← hA1, ← hA2, ← hA3, bl_mkB]
        unfold fmtE nmE
        rw [bl_mkB, show ((i : Int) + 1 - 1).toNat = i by omega]
        rfl
      have HT := Lib.hid HT
      have KI := Lib.hid (fun W hW => (hA1 ▸ itoa_run cy O1.out W hW : Calls Tryd.prog 26 #[.int .i64 cy] W fun e w' => e = .returned (.string A1) ∧ Below W.heap.size W w'))
      have KJ := Lib.hid (fun W hW => (hA3 ▸ itoa_run nn O2.out W hW : Calls Tryd.prog 26 #[.int .i64 nn] W fun e w' => e = .returned (.string A3) ∧ Below W.heap.size W w'))
      have HA2 := Lib.hid hA2
      have HFL := Lib.hid hfl
      clear hA1 hA2 hA3 g1 g2 g3 g4 g5 g6 app s32 s10 hfl
      go_wp2_with fail
      have hS0 := HS.out.below (below_drewN (Below.refl _ _) 1)
      refine region_L (FS w.heap.size wr.heap.size cy ((i : Int) + 1) nn w) [] (by kernel_rfl) ?_
      refine take_P 0 (v := .pointer (some ⟨wr.heap.size, 0, none⟩)) rfl (by kernel_rfl) (by kernel_rfl) (by kernel_rfl) (fun _ _ _ h => h) rfl (fun W' => by go_simp) ?_
      refine take_L 1 (v := .int .i64 cy) rfl (by kernel_rfl) (by kernel_rfl) (by kernel_rfl) (by kernel_rfl) (fun _ _ _ h => h) rfl (fun W' hW' => by have z : W'.cell? ⟨wr.heap.size, 0, none⟩ = some (.int .i64 cy) := hW'.blk.cell 0; go_simp) hS0 ?_
      refine take_P 4 (v := .pointer (some ⟨wr.heap.size, 1, none⟩)) rfl (by kernel_rfl) (by kernel_rfl) (by kernel_rfl) (fun _ _ _ h => h) rfl (fun W' => by go_simp) ?_
      refine take_L 5 (v := .int .i64 ((i : Int) + 1)) rfl (by kernel_rfl) (by kernel_rfl) (by kernel_rfl) (by kernel_rfl) (fun _ _ _ h => h) rfl (fun W' hW' => by have z : W'.cell? ⟨wr.heap.size, 1, none⟩ = some (.int .i64 ((i : Int) + 1)) := hW'.blk.cell 1; go_simp) hS0 ?_
      refine take_P 6 (v := .int .i64 i) rfl (by kernel_rfl) (by kernel_rfl) (by kernel_rfl) (fun _ _ _ h => h) rfl (fun W' => by have hw : IntKind.i64.wrap (i : Int) = (i : Int) := (by rw [IntKind.wrap_i64]; omega); go_simp; try exact hw) ?_
      refine take_P 7 (v := .pointer (some ⟨0, i, none⟩)) rfl (by kernel_rfl) (by kernel_rfl) (by kernel_rfl) (fun _ _ _ h => h) rfl (fun W' => by have j0 : (0 : Int) ≤ (i : Int) := (by omega); have j1 : (i : Int) < 13 := (by have := HI.out; omega); go_simp) ?_
      refine take_L 8 (v := .string A2) rfl (by kernel_rfl) (by kernel_rfl) (by kernel_rfl) (by kernel_rfl) (fun _ _ _ h => h) rfl (fun W' hW' => by obtain ⟨t, fr, hrow⟩ := hW'.env.row; have z : W'.cell? ⟨0, i, none⟩ = some (.string A2) := (by rw [World.cell?, hrow]; simp only; rw [enamesC_at i HI.out, HA2.out]; rfl); go_simp) hS0 ?_
      refine take_P 11 (v := .pointer (some ⟨wr.heap.size, 2, none⟩)) rfl (by kernel_rfl) (by kernel_rfl) (by kernel_rfl) (fun _ _ _ h => h) rfl (fun W' => by go_simp) ?_
      refine take_L 12 (v := .int .i64 nn) rfl (by kernel_rfl) (by kernel_rfl) (by kernel_rfl) (by kernel_rfl) (fun _ _ _ h => h) rfl (fun W' hW' => by have z : W'.cell? ⟨wr.heap.size, 2, none⟩ = some (.int .i64 nn) := hW'.blk.cell 2; go_simp) hS0 ?_
      refine one_L 2 (by kernel_rfl) rfl rfl fun K2 hK2 => ?_
      have HK2 := Lib.hid hK2
      clear hK2
      go_simp
      refine (KI.out _ hS0.env).mono ?_
      rintro e W2 ⟨rfl, b2⟩
      have K2 := Lib.hid (hS0.below b2)
      have HB2 := Lib.hid (isB_below HBB.out b2)
      clear b2 hS0
      have hS0 := K2.out
      refine HK2.out _ _ (fun _ _ => hS0) ?_
      refine take_P 3 (v := .string (A1 ++ ⟨#[32]⟩)) rfl (by kernel_rfl) (by kernel_rfl) (by kernel_rfl) (fun _ _ _ h => h) rfl (fun W' => by go_simp <;> omega) ?_
      refine take_P 9 (v := .string (A1 ++ ⟨#[32]⟩ ++ A2)) rfl (by kernel_rfl) (by kernel_rfl) (by kernel_rfl) (fun _ _ _ h => h) rfl (fun W' => by go_simp <;> omega) ?_
      refine take_P 10 (v := .string (A1 ++ ⟨#[32]⟩ ++ A2 ++ ⟨#[32]⟩)) rfl (by kernel_rfl) (by kernel_rfl) (by kernel_rfl) (fun _ _ _ h => h) rfl (fun W' => by go_simp <;> omega) ?_
      refine one_L 13 (by kernel_rfl) rfl rfl fun K13 hK13 => ?_
      have HK13 := Lib.hid hK13
      clear hK13
      go_simp
      refine (KJ.out _ hS0.env).mono ?_
      rintro e W3 ⟨rfl, b3⟩
      have K3 := Lib.hid (hS0.below b3)
      have HB3 := Lib.hid (isB_below HB2.out b3)
      clear b3 hS0
      have hS0 := K3.out
      refine HK13.out _ _ (fun _ _ => hS0) ?_
      refine take_P 14 (v := .string (A1 ++ ⟨#[32]⟩ ++ A2 ++ ⟨#[32]⟩ ++ A3)) rfl (by kernel_rfl) (by kernel_rfl) (by kernel_rfl) (fun _ _ _ h => h) rfl (fun W' => by go_simp <;> omega) ?_
      refine take_P 15 (v := .string (A1 ++ ⟨#[32]⟩ ++ A2 ++ ⟨#[32]⟩ ++ A3 ++ ⟨#[10]⟩)) rfl (by kernel_rfl) (by kernel_rfl) (by kernel_rfl) (fun _ _ _ h => h) rfl (fun W' => by go_simp <;> omega) ?_
      refine one_L 16 (by kernel_rfl) rfl rfl fun K16 hK16 => ?_
      have HK16 := Lib.hid hK16
      clear hK16
      go_simp
      refine (write_string w.heap.size w.heap.size _ _ _ HB3.out (by rw [Lib.byteCells_length]; have := HFL.out; have := G6.out; omega) (by have := hS0.bel.size; omega)).mono ?_
      rintro e W4 ⟨rfl, hB4, b4, hk4⟩
      have bel4 := hS0.bel.trans b4
      have sz4 : w.heap.size < W4.heap.size := by have := b4.size; have := hS0.blk.lt; omega
      rw [Lib.strCells_eq, ← Lib.byteCells_append, show (A1 ++ ⟨#[32]⟩ ++ A2 ++ ⟨#[32]⟩ ++ A3 ++ ⟨#[10]⟩ : ByteArray).data.toList = fmtE ⟨cy, (i : Int) + 1, nn⟩ from HT.out, ← fmtL_snoc, ← HTS.out] at hB4
      have FF := Lib.hid (And.intro hB4 bel4)
      have hS4 : FS w.heap.size wr.heap.size cy ((i : Int) + 1) nn w W4 := ⟨HE.out.below bel4 hlow, hk4 _ _ _ (by omega) (by decide) hS0.blk, bel4, Nat.le_refl _⟩
      have HS4 := Lib.hid hS4
      clear hB4 b4 bel4 hS0 hk4 hS4
      refine HK16.out _ _ (fun _ _ => HS4.out) ?_
      refine done_L (by kernel_rfl) ?_ _
      clear HK2 HK13 HK16
      go_simp
      go_wp2_with fail
      go_roundw
      case rel => exact ⟨k + 1, by omega, by go_num, FF.out.1, sz4, FF.out.2⟩
      case measure => simp [intOf]; omega
    · obtain rfl : k = n := by omega
      have e1 : decide (k < k) = false := by simp
      have ht : l.take k = l := List.take_of_length_le (by have := HLN.out; omega)
      rw [ht] at hB
      have KS := Lib.hid (Tryd.Builder_String_any w.heap.size w.heap.size (fmtL l) wr hB (by omega))
      have BEL := Lib.hid bel
      clear hB ht bel
      go_wp2_with fail
      refine KS.out.mono ?_
      rintro e W5 ⟨rfl, b5⟩
      go_wp2_with fail
      go_ret
      exact ⟨rfl, BEL.out.trans b5⟩
end Go.Proofs.YtkafmpgihhnhdaaDoor
