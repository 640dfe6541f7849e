/-
  LexNumbers returns true. Its argument: any.
-/
import Derived.Test.YtiphekdahmiaeaaDoorFmt05
import Derived.Test.YtiphekdahmiaeaaDoorAlike05
import Derived.Test.YtiphekdahmiaeaaDoorHeld
import Derived.Test.YtiphekdahmiaeaaDoorDoor05
namespace Go.Proofs.YtiphekdahmiaeaaDoor
open Go Go.RowKit
set_option linter.unusedVariables false
attribute [local go_sem ↓] ix_run

set_option maxRecDepth 100000 in
set_option maxHeartbeats 2000000 in
theorem lnum_walk (n : Int) (w : World) (hN : NamesIs w) (hw0 : 0 < w.heap.size) (hw : (Lit.int .i64 n).wf = true) :
    Calls Tryd.prog 8 #[.int .i64 n] w fun e w' => e = .returned (.bool true) ∧ Below w.heap.size w w' := by
  have KB := between_any n 0 999999999999999 w (by omega) (by omega) (by omega)
  obtain ⟨m, hm⟩ : ∃ m : Nat, 0 + n % (999999999999999 - 0 + 1) = (m : Int) := ⟨(n % 1000000000000000).toNat, by omega⟩
  rw [hm] at KB
  have hml : m < 1000000000000000 := by omega
  have KB := Lib.hid KB
  have KF1 := Lib.hid (format_any m w hml)
  clear hm
  go_enter Tryd.func8, Tryd.ntmps8
  go_wp2_with fail
  refine KB.out.mono ?_
  rintro e w' ⟨rfl, rfl⟩
  go_wp2_with fail
  refine KF1.out.mono ?_
  rintro e w1 ⟨⟨B, rfl, hf⟩, b1⟩
  have hsz1 := b1.size
  have s88 : (⟨#[88]⟩ : ByteArray).size = 1 := rfl
  have hBs : B.size ≤ 16 := by rw [← bl_len]; exact hf.size
  have hg1 : ¬ (⟨#[88]⟩ : ByteArray).size + B.size > 9223372036854775807 := by omega
  have KT := tokens_v (⟨#[88]⟩ ++ B) (by rw [size_app]; omega) w1 (hN.below b1 hw0) (by omega)
  rw [bl_append, show bl ⟨#[88]⟩ ++ bl B = 88 :: bl B from rfl, lex_num hf] at KT
  have KT := Lib.hid KT
  clear KB KF1 hf s88
  go_wp2_with fail
  refine KT.out.mono ?_
  rintro e w2 ⟨a2, c2, rfl, t2, b2', n2, f2, m2⟩
  have b2 := b1.trans (b2'.mono hsz1)
  have hsz2 := b2.size
  have KF2 := Lib.hid (format_any m w2 hml)
  have T2 := Lib.hid t2
  clear KT b1 b2' n2 f2 t2 hg1
  simp only [tsOf, nOf, eOf, List.length_cons, List.length_nil] at m2 ⊢
  go_wp2_with fail
  refine KF2.out.mono ?_
  rintro e w3 ⟨⟨B2, rfl, hf⟩, b3'⟩
  have b3 := b2.trans (b3'.mono hsz2)
  have hsz3 := b3.size
  have T3 := Lib.hid (T2.out.below b3')
  have s88 : (⟨#[88]⟩ : ByteArray).size = 1 := rfl
  have s3 : (⟨#[46, 49, 46]⟩ : ByteArray).size = 3 := rfl
  have hBs : B2.size ≤ 16 := by rw [← bl_len]; exact hf.size
  have hg1 : ¬ (⟨#[88]⟩ : ByteArray).size + B2.size > 9223372036854775807 := by omega
  have hg2 : ¬ (⟨#[88]⟩ ++ B2).size + (⟨#[46, 49, 46]⟩ : ByteArray).size > 9223372036854775807 := by rw [size_app]; omega
  have KT := tokens_v (⟨#[88]⟩ ++ B2 ++ ⟨#[46, 49, 46]⟩) (by rw [size_app, size_app]; omega) w3 (hN.below b3 hw0) (by omega)
  rw [bl_append, bl_append, show bl ⟨#[88]⟩ ++ bl B2 ++ bl ⟨#[46, 49, 46]⟩ = 88 :: bl B2 ++ [46, 49, 46] from rfl, lex_odd hf] at KT
  have KT := Lib.hid KT
  clear KF2 hf s88 s3 T2 b2 b3'
  go_wp2_with fail
  refine KT.out.mono ?_
  rintro e w4 ⟨a4, c4, rfl, t4, b4', n4, f4, m4⟩
  have b4 := b3.trans (b4'.mono hsz3)
  have hsz4 := b4.size
  have T4 := Lib.hid (T3.out.below b4')
  have KA := Lib.hid (awake_true w4 (hN.below b4 hw0) (by omega))
  clear KT b3 b4' n4 f4 t4 hg1 hg2 T3
  simp only [tsOf, nOf, eOf, List.length_nil] at m4 ⊢
  go_wp2_with fail
  refine KA.out.mono ?_
  rintro e w5 ⟨rfl, b5'⟩
  have b5 := b4.trans (b5'.mono hsz4)
  have hsz5 := b5.size
  have T5 := T4.out.below b5'
  obtain ⟨b, o, rfl, _, e1⟩ := T5 1 _ rfl
  have p0 := e1 0 _ rfl
  have p1 := e1 1 _ rfl
  have p2 := e1 2 _ rfl
  have p3 := e1 3 _ rfl
  simp only [Nat.one_mul, Nat.add_zero] at p0 p1 p2 p3
  rw [show mkB ([] : List UInt8) = ⟨#[]⟩ from rfl] at p3
  clear T4 T5 e1 b5' b4
  go_wp2_with fail
  go_ret
  exact ⟨rfl, b5⟩
end Go.Proofs.YtiphekdahmiaeaaDoor
