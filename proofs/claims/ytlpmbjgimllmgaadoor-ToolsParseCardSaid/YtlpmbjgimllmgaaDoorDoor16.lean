/-
  From what the row lists to what the walks need: the powers of ten, MaxLen, strconv's two errors. No condition.
-/
import Derived.Test.YtlpmbjgimllmgaaDoorEnv16
import Derived.Test.YtlpmbjgimllmgaaDoorRows
import Derived.Lib.LaidTab
import Derived.Shelf.Strings.Shaped
import Derived.HandedShaped
namespace Go.Proofs.YtlpmbjgimllmgaaDoor
open Go Go.RowKit
set_option linter.unusedVariables false

theorem laid_tail {P : Program} {x : String × DataW Unit} {rest : List (String × DataW Unit)} {w : World} (h : laidMet P (x :: rest) w) : laidMet P rest w := by
  obtain ⟨ps, ⟨g, t, cs, fuel, p, q, hg, ht, hv, hd, hr, hps⟩, hnd, hall⟩ := h
  subst hps
  exact ⟨q, hr, (List.nodup_append.1 hnd).2.1, fun b off hm => hall b off (List.mem_append_right _ hm)⟩
theorem iface_of_trod {H : Type} {enc : TypeId × Value → H} {P : Program} {w : World} {base : Nat} {sp : Nat → Bool} {held : Bool} {fuel : Nat} {t : TypeId} {cs : List Value} {m : _} {name : _} {x : DataW H} {p : List MemPlace}
    (hu : P.underlying t = some (.interface m)) (h : DataW.trod enc P w base sp held fuel t cs = some (.iface name x, p)) : ∃ u v, cs = [.iface u v] := by
  cases fuel with
  | zero => simp [DataW.trod] at h
  | succ fuel =>
    unfold DataW.trod at h
    rw [hu] at h
    rcases cs with _ | ⟨c0, _ | ⟨c1, rest⟩⟩
    · simp at h
    · cases c0 <;> first | (simp at h; done) | exact ⟨_, _, rfl⟩
    · simp at h
theorem cell_of_var {P : Program} {w : World} {n : String} {g : Nat} {cs : Array Value} {v : Value} (hg : P.globalNamed n = some g) (h : w.var? P n = some cs) (hc : cs[0]? = some v) : w.cell? ⟨g, 0, none⟩ = some v := by
  unfold World.var? at h
  rw [hg] at h
  simp only [Option.bind_some] at h
  split at h
  · rename_i cs' t fr e
    injection h with h
    subst h
    simp [World.cell?, e, hc]
  · cases h
theorem err_of_head {W : World} {n : String} {g : Nat} {name : _} {x : DataW Unit} {rest : List (String × DataW Unit)} {t : TypeId} {m : _} (hg : Tryd.prog.globalNamed n = some g) (ht : (Tryd.prog.globals[g]?).map (·.type) = some t) (hu : Tryd.prog.underlying t = some (.interface m))
    (h : laidMet Tryd.prog ((n, .iface name x) :: rest) W) : ∃ ev, W.cell? ⟨g, 0, none⟩ = some ev ∧ (ev = .nilIface ∨ ∃ te pe, ev = .iface te pe) := by
  obtain ⟨ps, ⟨g', t', cs, fuel, p, q, hg', ht', hvar, hd, _, _⟩, _⟩ := h
  obtain rfl := Option.some.inj (hg.symm.trans hg')
  obtain rfl := Option.some.inj (ht.symm.trans ht')
  obtain ⟨u, v, e⟩ := iface_of_trod hu hd
  refine ⟨.iface u v, cell_of_var hg hvar ?_, .inr ⟨u, v, rfl⟩⟩
  rw [← Array.getElem?_toList, e]
  rfl
theorem env_of {W : World} (hs : W.ShapedOpen Tryd.prog) (h : laidMet Tryd.prog [("math/bits.deBruijn32tab", Rows.laid_math_bits_deBruijn32tab), ("math/bits.deBruijn64tab", Rows.laid_math_bits_deBruijn64tab), ("internal/strconv.uint64pow10", Rows.laid_internal_strconv_uint64pow10), ("unicode/utf8.acceptRanges", Rows.laid_unicode_utf8_acceptRanges), ("strconv.ErrRange", Rows.laid_strconv_ErrRange), ("strconv.ErrSyntax", Rows.laid_strconv_ErrSyntax), ("unicode/utf8.first", Rows.laid_unicode_utf8_first)] W) : Env W := by
  have h3 := laid_tail (laid_tail h)
  have h5 := laid_tail (laid_tail h3)
  have h6 := laid_tail h5
  have hpow : Lib.TabIs Tryd.prog W "internal/strconv.uint64pow10" .u64 Lib.pow10Tab :=
    Lib.tabIs_of_head gP (by kernel_rfl) Tryd.underlying89 Tryd.underlying71 (by kernel_rfl) (by kernel_rfl) h3
  obtain ⟨er, her⟩ := err_of_head (g := 3) (t := 76) (by kernel_rfl) (by kernel_rfl) Tryd.underlying76 h5
  obtain ⟨es, hes⟩ := err_of_head (g := 2) (t := 76) (by kernel_rfl) (by kernel_rfl) Tryd.underlying76 h6
  have hlt : 3 < W.heap.size := block_lt_of_cell her.1
  refine ⟨?_, hpow, ⟨es, hes⟩, ⟨er, her⟩, hlt⟩
  exact cell_of_shapedOpen_int (g := 0) (t := 3) (zero := #[.int .i64 0]) hs (of_decide_eq_true (by kernel_rfl)) (by kernel_rfl) rfl (by kernel_rfl) (by kernel_rfl) Tryd.underlying3
/-- A row that lists variables, told of the world's shape too. -/
theorem handed_shaped {H : Type} {enc : TypeId × Value → H} {a : Assume} {C : Checked} {os : Os} {f : FuncId} {fn : Func} {s : ChangeSpec} {conds : List PathCond} {apart fresh handsOn again : Bool} {X : World → Array Value → Prop}
    (hX : ∀ (w w' : World) (args : Array Value), w.heap = w'.heap → X w args → X w' args)
    (own : ownKnob C.prog.godebug = none) (started : os.Started) (noInit : C.prog.inits.idxOf? f = none) (hfn : C.prog.funcs[f]? = some fn)
    (witness : ∃ (w : World) (tape : Tape) (i : Input), w.os = os ∧ (w.forCall tape i).Shaped C.prog ∧ i.vars = [] ∧ Input.okWide C.prog (w.forCall tape i) .any w.heap.size f i ∧
      ((s.pre enc C.prog fn conds apart (w.forCall tape i).memory i.args ∧ X (w.forCall tape i).memory i.args) ∧ sizedMet enc C.prog fn (OpenSpec.ofChange s) apart (w.forCall tape i).memory i.args) ∧ a.holds C.prog (lone (Frame.enter C.prog f i.args .normal) [] (w.forCall tape i)))
    (contract : ∀ (W : World) (base : Nat) (args : Array Value) (ds gs : List (DataW H)) (before : List MemPlace),
      (∀ (j : Nat) t v, fn.params[j]? = some t → args[j]? = some v → Value.okWide C.prog W .any base t v) →
      DataW.Whole enc C.prog fn.params.toList s.vars apart W args.toList ds gs before →
      W.ShapedOpen C.prog → X W args →
      Calls C.prog f args W fun e W' => ∃ v, e = .returned v ∧ s.post enc C.prog fn apart fresh handsOn again W args v W') :
    ReturnsInHanded a C os f .any (fun w args => (s.pre enc C.prog fn conds apart w args ∧ X w args) ∧ sizedMet enc C.prog fn (OpenSpec.ofChange s) apart w args) (s.post enc C.prog fn apart fresh handsOn again) := by
  refine returnsInHanded_of_calls own started noInit witness ?_
  intro w tape i _ hsh _ hok hpre hholds
  obtain ⟨_, _, _, fn', hfn', _, _, _, _, hval⟩ := hok
  have e : fn' = fn := Option.some.inj (hfn'.symm.trans hfn)
  subst e
  obtain ⟨⟨⟨ds, gs, before, hw, hc⟩, hx⟩, hz⟩ := hpre
  have hw' := DataW.Whole.of_heap (w' := w.forCall tape i) (by rfl) hw
  refine (contract (w.forCall tape i) w.heap.size i.args ds gs before hval hw' hsh (hX _ _ _ (by rfl) hx)).mono fun e W' ⟨v, he, hp⟩ => ?_
  subst he
  exact ChangeSpec.post_blind hp
end Go.Proofs.YtlpmbjgimllmgaaDoor
