/-
  What cncmill.Mod leaves. No condition beyond the types.
-/
import Derived.Test.YtbagekkgmemfcaaRows
import Derived.Test.YtbagekkgmemfcaaBase
namespace Go.Proofs.Ytbagekkgmemfcaa
open Go Go.RowKit

theorem tmod_bd (v n : Int) (h : 1 ≤ n) : -n < v.tmod n ∧ v.tmod n < n := by
  have h0 := Int.emod_nonneg v (show n ≠ 0 by omega)
  have h1 := Int.emod_lt_of_pos v (show 0 < n by omega)
  rw [Int.tmod_eq_emod]
  split <;> omega
theorem tmod_add_mod (v n : Int) (h : 1 ≤ n) : (v.tmod n + n) % n = v % n := by
  rw [Int.add_emod_right, Int.tmod_eq_emod]
  split
  · simp
  · have : (n.natAbs : Int) = n := by omega
    rw [this, Int.sub_emod]; simp

theorem mod_any (v n : Int) (w : World) (h : 1 ≤ n) (hn : n ≤ 1099511627776) :
    Calls Try.prog 8 #[.int .i64 v, .int .i64 n] w fun e w' => e = .returned (.int .i64 (v % n)) ∧ w = w' := by
  obtain ⟨h1, h2⟩ := tmod_bd v n h
  have h3 := tmod_add_mod v n h
  have H3 := Lib.hid h3
  clear h3
  go_enter Try.func8, Try.ntmps8
  go_wp2
  go_ret
  exact ⟨by rw [← H3.out]; rfl, rfl⟩

end Go.Proofs.Ytbagekkgmemfcaa
