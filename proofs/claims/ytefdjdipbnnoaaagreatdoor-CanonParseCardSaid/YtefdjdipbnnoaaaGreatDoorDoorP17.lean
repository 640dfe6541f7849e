/-
  From what the rows of CanonParse and CanonRoundTrip list to what the walks need. No condition.
-/
import Derived.Test.YtefdjdipbnnoaaaGreatDoorDoor17
import Derived.Test.YtefdjdipbnnoaaaGreatDoorEnvP17
import Derived.Shelf.Strings.Shaped
namespace Go.Proofs.YtefdjdipbnnoaaaGreatDoor
open Go Go.RowKit
set_option linter.unusedVariables false

theorem iface_of_trod {H : Type} {enc : TypeId × Value → H} {P : Program} {w : World} {base : Nat} {sp : Nat → Bool} {held : Bool} {fuel : Nat} {t : TypeId} {cs : List Value} {m : _} {name : _} {x : DataW H} {p : List MemPlace}
    (hu : P.underlying t = some (.interface m)) (h : DataW.trod enc P w base sp held fuel t cs = some (.iface name x, p)) : ∃ u v, cs = [.iface u v] := by
  cases fuel with
  | zero => simp [DataW.trod] at h
  | succ fuel =>
    unfold DataW.trod at h
    rw [hu] at h
    rcases cs with _ | ⟨c0, _ | ⟨c1, rest⟩⟩
    · simp at h
    · cases c0 <;> first | (simp at h; done) | exact ⟨_, _, rfl⟩
    · simp at h
theorem cell_of_var {P : Program} {w : World} {n : String} {g : Nat} {cs : Array Value} {v : Value} (hg : P.globalNamed n = some g) (h : w.var? P n = some cs) (hc : cs[0]? = some v) : w.cell? ⟨g, 0, none⟩ = some v := by
  unfold World.var? at h
  rw [hg] at h
  simp only [Option.bind_some] at h
  split at h
  · rename_i cs' t fr e
    injection h with h
    subst h
    simp [World.cell?, e, hc]
  · cases h
theorem err_of_head {W : World} {n : String} {g : Nat} {name : _} {x : DataW Unit} {rest : List (String × DataW Unit)} {t : TypeId} {m : _} (hg : Tryz.prog.globalNamed n = some g) (ht : (Tryz.prog.globals[g]?).map (·.type) = some t) (hu : Tryz.prog.underlying t = some (.interface m))
    (h : laidMet Tryz.prog ((n, .iface name x) :: rest) W) : ∃ ev, W.cell? ⟨g, 0, none⟩ = some ev ∧ (ev = .nilIface ∨ ∃ te pe, ev = .iface te pe) := by
  obtain ⟨ps, ⟨g', t', cs, fuel, p, q, hg', ht', hvar, hd, _, _⟩, _⟩ := h
  obtain rfl := Option.some.inj (hg.symm.trans hg')
  obtain rfl := Option.some.inj (ht.symm.trans ht')
  obtain ⟨u, v, e⟩ := iface_of_trod hu hd
  refine ⟨.iface u v, cell_of_var hg hvar ?_, .inr ⟨u, v, rfl⟩⟩
  rw [← Array.getElem?_toList, e]
  rfl
theorem envP_of {W : World} (hs : W.ShapedOpen Tryz.prog) (h : laidMet Tryz.prog [("math/bits.deBruijn32tab", Rows.laid_math_bits_deBruijn32tab), ("math/bits.deBruijn64tab", Rows.laid_math_bits_deBruijn64tab), ("internal/strconv.uint64pow10", Rows.laid_internal_strconv_uint64pow10), ("unicode/utf8.acceptRanges", Rows.laid_unicode_utf8_acceptRanges), ("strconv.ErrRange", Rows.laid_strconv_ErrRange), ("strconv.ErrSyntax", Rows.laid_strconv_ErrSyntax), ("cnc/canon.names", Rows.laid_cnc_canon_names), ("unicode/utf8.first", Rows.laid_unicode_utf8_first)] W) : EnvP W := by
  have h2 := laid_tail h
  have h3 := laid_tail h2
  have h5 := laid_tail (laid_tail h3)
  have h6 := laid_tail h5
  have h7 := laid_tail h6
  have hpow : Lib.TabIs Tryz.prog W "internal/strconv.uint64pow10" .u64 Lib.pow10Tab :=
    Lib.tabIs_of_head gP (by kernel_rfl) Tryz.underlying179 Tryz.underlying123 (by kernel_rfl) (by kernel_rfl) h3
  obtain ⟨er, her⟩ := err_of_head (g := 3) (t := 109) (by kernel_rfl) (by kernel_rfl) Tryz.underlying109 h5
  obtain ⟨es, hes⟩ := err_of_head (g := 2) (t := 109) (by kernel_rfl) (by kernel_rfl) Tryz.underlying109 h6
  refine ⟨⟨names_of_head h7, hpow, lt_of_head (by kernel_rfl) h2⟩, ?_, ⟨es, hes⟩, ⟨er, her⟩⟩
  exact cell_of_shapedOpen_int (g := 1) (t := 3) (zero := #[.int .i64 0]) hs (of_decide_eq_true (by kernel_rfl)) (by kernel_rfl) rfl (by kernel_rfl) (by kernel_rfl) Tryz.underlying3
end Go.Proofs.YtefdjdipbnnoaaaGreatDoor
