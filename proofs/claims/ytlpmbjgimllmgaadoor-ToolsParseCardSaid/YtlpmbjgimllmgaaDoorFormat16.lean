/-
  tools.Format: the text of a table. Any table.
-/
import Derived.Test.YtlpmbjgimllmgaaDoorEnv16
import Derived.Test.YtlpmbjgimllmgaaDoorValid16
namespace Go.Proofs.YtlpmbjgimllmgaaDoor
open Go Go.RowKit
set_option linter.unusedVariables false

theorem infoU8 : (Tryd.prog.info? 5).map (fun i => (i.zero, i.size, i.bytes)) = some (some (.int .u8 0), 1, 1) := by kernel_rfl
/-- append of one byte. -/
theorem go_byapp {ops : Array Oper} {rest : List Oper} {a : Act} {w : World} {Q : Exit → Act → World → Prop} {dst : Option Tmp} {ty0 : TypeId} {pos : String} {after : Array Edge} (x y : Operand) {base : Nat} {v : Value} (l : List UInt8) (b : UInt8) (g : Nat)
    (hx : a.eval x = v) (hown : w.ownsRow base 5 1 v l.length (Lib.byteCells l)) (hy : a.eval y = .slice (some ⟨g, 0, none⟩) 1 1) (hg : Blk w g 5 #[.int .u8 b.toNat]) (hn : l.length ≤ 1000000) (hb : base ≤ w.heap.size)
    (h : ∀ v' w', w'.ownsRow base 5 1 v' (l ++ [b]).length (Lib.byteCells (l ++ [b])) → w.grownBy w' v.ownBlock → wpList Tryd.prog ops Q rest (a.put dst v') w') : wpList Tryd.prog ops Q (⟨dst, .call { callee := .builtin .append, args := #[x, y], argTypes := #[35, 35] }, ty0, pos, after, none⟩ :: rest) a w := by
  obtain ⟨i0, hi, hz0, hz1, hz2⟩ := info_parts infoU8
  refine wpList_append_lies w rfl x y 35 rfl base 5 i0 (.int .u8 0) 1 1 Tryd.underlying35 hi hz0 hz1 hz2 (by kernel_rfl) (by decide) v l.length (Lib.byteCells l) hx hown ⟨g, 0, none⟩ 1 1 [.int .u8 b.toNat] hy rfl ?_ (by simp [Value.oneCell']) (by omega) (by unfold maxLen; omega) (by omega) hb w.heap.size rfl ?_
  · intro j u hu
    rw [Addr.add_mid, Nat.zero_add, hg.cell]
    simpa using hu
  · intro g' c' w' hown' hgrow _ _
    rw [show [Value.int .u8 b.toNat] = Lib.byteCells [b] from rfl, ← Lib.byteCells_append] at hown'
    have e : l.length + 1 = (l ++ [b]).length := by simp
    rw [e] at hown'
    have := h (.slice (some ⟨g', 0, none⟩) (l ++ [b]).length c') w' hown' hgrow
    rw [← e] at this
    exact this
/-- The string of the bytes that are the call's own. -/
theorem conv_own {W : World} {base : Nat} {v : Value} {l : List UInt8} (h : W.ownsRow base 5 1 v l.length (Lib.byteCells l)) : (convert 35 9 v).run Tryd.prog W = .ok (.string (mkB l)) W := by
  rcases h.2 with ⟨rfl, e⟩ | ⟨g, cap, cur, rfl, hb, _⟩
  · obtain rfl := List.length_eq_zero_iff.1 e
    kernel_rfl
  · refine run_convert_bytes_back W 35 9 5 ⟨g, 0, none⟩ cap l Tryd.underlying35 Tryd.underlying5 Tryd.underlying9 fun j hj => ?_
    rw [Addr.add_mid, Nat.zero_add, h.cellAt j (by omega)]
    unfold Lib.byteCells
    rw [List.getElem?_map, List.getElem?_eq_getElem hj]
    rfl
/-- The first k fields of a tool, with what separates them. -/
def preO (x y z u : Int) : Nat → List UInt8
  | 0 => []
  | 1 => Lib.itoa x
  | 2 => Lib.itoa x ++ [32] ++ Lib.itoa y
  | 3 => Lib.itoa x ++ [32] ++ Lib.itoa y ++ [32] ++ Lib.itoa z
  | _ => Lib.itoa x ++ [32] ++ Lib.itoa y ++ [32] ++ Lib.itoa z ++ [32] ++ Lib.itoa u
theorem preO_len {x y z u : Int} (h1 : inC x) (h2 : inC y) (h3 : inC z) (h4 : inC u) : ∀ k, (preO x y z u k).length ≤ 39
  | 0 => by simp [preO]
  | 1 => by have := inC_itoa h1; show (Lib.itoa x).length ≤ 39; omega
  | 2 => by have := inC_itoa h1; have := inC_itoa h2; unfold preO; simp; omega
  | 3 => by have := inC_itoa h1; have := inC_itoa h2; have := inC_itoa h3; unfold preO; simp; omega
  | k + 4 => by have := inC_itoa h1; have := inC_itoa h2; have := inC_itoa h3; have := inC_itoa h4; unfold preO; simp; omega
set_option maxRecDepth 100000 in
set_option maxHeartbeats 4000000 in
theorem format_any (a : Option Addr) (c : Nat) (l : List To) (w : World) (h : TosAt w a l) (hn : l.length ≤ 1073741824) (hE : Env w) :
    Calls Tryd.prog 16 #[.slice a l.length c] w fun e w' => e = .returned (.string (mkB (formatT l))) ∧ Below w.heap.size w w' := by
  obtain ⟨n, hln⟩ : ∃ n, l.length = n := ⟨_, rfl⟩
  have KV := valid_any a c l w h (by omega)
  have HLN := Lib.hid hln
  have H := Lib.hid h
  have HE0 := Lib.hid hE
  have hlow := hE.low
  rw [hln] at KV hn ⊢
  clear h hln hE
  cases hv : validT l
  · have R : formatT l = [] := by unfold formatT; rw [hv, if_neg (by decide)]
    have R := Lib.hid R
    rw [hv] at KV
    have KV := Lib.hid KV
    clear hv
    go_enter Tryd.func16, Tryd.ntmps16
    go_wp2_with fail
    refine KV.out.mono ?_
    rintro e w1 ⟨rfl, b1⟩
    go_wp2_with fail
    go_ret
    exact ⟨by rw [R.out]; rfl, b1⟩
  · have R : formatT l = fmtOs l := by unfold formatT; rw [hv, if_pos rfl]
    have R := Lib.hid R
    have HALL := Lib.hid (validT_all hv)
    have HG := Lib.hid (fun k (hk : k < n) => (⟨l[k]'(by have := HLN.out; omega), List.getElem?_eq_getElem _⟩ : ∃ x, l[k]? = some x))
    rw [hv] at KV
    have KV := Lib.hid KV
    have hn32 : n ≤ 32 := by have := HALL.out.1; have := HLN.out; omega
    clear hv
    go_enter Tryd.func16, Tryd.ntmps16
    go_wp2_with fail
    refine KV.out.mono ?_
    rintro e w1 ⟨rfl, b1⟩
    have B1 := Lib.hid b1
    clear b1 KV
    go_wp2_with fail
    go_loopw [3, 13] (fun s3 s13 wr => ∃ (k : Nat) (v3 : Value), k ≤ n ∧ v3 = s3 ∧ s13 = .int .i64 k ∧ wr.ownsRow w.heap.size 5 1 v3 (fmtOs (l.take k)).length (Lib.byteCells (fmtOs (l.take k))) ∧ Below w.heap.size w wr)
      (fun _ s13 _ => n - (intOf s13).toNat)
    case atStart => exact ⟨0, _, by omega, rfl, rfl, World.ownsRow_nil _ _ _ _, B1.out⟩
    case round =>
      obtain ⟨k, v3, hk, rfl, rfl, hown, bel⟩ := hrel
      have hsz := bel.size
      by_cases hlt : k < n
      · obtain ⟨t, hx⟩ := HG.out k hlt
        have e1 : decide (k < n) = true := decide_eq_true hlt
        obtain ⟨b, o, rfl, _, hc⟩ := H.out.below bel k t hx
        have hgd := HALL.out.2 t (List.mem_of_getElem? hx)
        have hts := take_snoc hx
        have hfl : (fmtOs (l.take k)).length ≤ 1280 := by
          have := fmtOs_len (l := l.take k) fun e he => HALL.out.2 e (List.mem_of_mem_take he)
          rw [List.length_take] at this
          omega
        obtain ⟨x, y, z, u⟩ := t
        obtain ⟨p1, p2, p3, p4, _⟩ := (toGood_iff _).1 hgd
        have HI1 : Hid (inC x) := Lib.hid p1
        have HI2 : Hid (inC y) := Lib.hid p2
        have HI3 : Hid (inC z) := Lib.hid p3
        have HI4 : Hid (inC u) := Lib.hid p4
        have c0 := hc 0 _ rfl
        have c1 := hc 1 _ rfl
        have c2 := hc 2 _ rfl
        have c3 := hc 3 _ rfl
        simp only [Nat.add_zero] at c0 c1 c2 c3
        have i1 : (0 : Int) ≤ (k : Int) := by omega
        have i2 : (k : Int) < (n : Int) := by omega
        have BEL3 := Lib.hid (bel.alloc (by omega) (.cells #[.int .i64 x, .int .i64 y, .int .i64 z, .int .i64 u] 29))
        have HOWN3 := Lib.hid (hown.alloc (.cells #[.int .i64 x, .int .i64 y, .int .i64 z, .int .i64 u] 29))
        have KF := Lib.hid (fields_any x y z u (wr.alloc (.cells #[.int .i64 x, .int .i64 y, .int .i64 z, .int .i64 u] 29)))
        have HTS := Lib.hid hts
        obtain ⟨T, hT⟩ : ∃ T, fmtOs (l.take k) = T := ⟨_, rfl⟩
        rw [hT] at HOWN3 hfl
        have HTE := Lib.hid hT
        clear hT hown bel hc hx hgd hts p1 p2 p3 p4
        go_wp2_with fail
        refine KF.out.mono ?_
        rintro e w3 ⟨rfl, b3⟩
        have BEL4 := Lib.hid (BEL3.out.trans (b3.mono (by simp; omega)))
        have HOWN4 := Lib.hid (HOWN3.out.kept (grown_of_below b3) (Classical.em _))
        have HE4 := Lib.hid (HE0.out.below BEL4.out hlow)
        clear b3 BEL3 HOWN3 KF c0 c1 c2 c3
        go_wp2_with fail
        go_loopw [3, 19] (fun s3 s19 wr => ∃ (j : Nat) (v4 : Value), j ≤ 4 ∧ s19 = .int .i64 j ∧ v4 = s3 ∧ wr.ownsRow w.heap.size 5 1 v4 (T ++ preO x y z u j).length (Lib.byteCells (T ++ preO x y z u j)) ∧ Env wr ∧ Below w.heap.size w wr)
          (fun _ s19 _ => 4 - (intOf s19).toNat)
        case atStart => exact ⟨0, _, by omega, rfl, rfl, by simpa [preO] using HOWN4.out, HE4.out, BEL4.out⟩
        case round =>
          obtain ⟨j, v4, hj, rfl, rfl, hown, hE, bel⟩ := hrel
          have hszr := bel.size
          have BEL := Lib.hid bel
          have HE := Lib.hid hE
          have hj5 : j = 0 ∨ j = 1 ∨ j = 2 ∨ j = 3 ∨ j = 4 := by omega
          clear hj HOWN4 HE4 BEL4
          rcases hj5 with rfl | rfl | rfl | rfl | rfl
          · skip
            have hix := four_at0 (.int .i64 x) (.int .i64 y) (.int .i64 z) (.int .i64 u) wr
            have KI := Lib.hid (appInt_run w.heap.size x (by obtain ⟨h1, h2⟩ := HI1.out; omega) _ _ wr hown hszr hlow (by simp [preO]; omega) hE)
            clear hown bel hE
            go_wp2_with fail
            refine KI.out.mono ?_
            rintro e w5 ⟨v5, rfl, hown5, b5⟩
            have BEL5 := Lib.hid (BEL.out.trans b5)
            have HE5 := Lib.hid (HE.out.below b5 hlow)
            have HOWN5 := Lib.hid hown5
            clear hown5 b5 KI
            go_wp2_with fail
            go_roundw
            case rel => exact ⟨1, v5, by omega, by rfl, rfl, by have := HOWN5.out; simpa [preO] using this, HE5.out, BEL5.out⟩
            case measure => simp [intOf]
          · skip
            have hix := four_at1 (.int .i64 x) (.int .i64 y) (.int .i64 z) (.int .i64 u) wr
            have hlen : (T ++ preO x y z u 1).length ≤ 1400 := by rw [List.length_append]; have := preO_len HI1.out HI2.out HI3.out HI4.out 1; omega
            have HOWN := Lib.hid hown
            clear hown bel hE
            go_wp2_with (first
              | ((with_reducible refine go_byapp (.tmp 25) (.tmp 26) (T ++ preO x y z u 1) 32 _ (by with_unfolding_all rfl) (HOWN.out.alloc _) (by with_unfolding_all rfl) (by with_unfolding_all exact Blk.new wr _ _) (by omega) (by simp; omega) ?_); intro v4 w4 hown4 hgrow; have bel4 : Below w.heap.size w w4 := (BEL.out.alloc (by omega) _).trans (below_of_grown hgrow (by simp; omega) (fun k e => ((HOWN.out).lt k e).1)); have FF := Lib.hid (And.intro hown4 bel4); clear hown4 bel4 hgrow))
            have HE4 := Lib.hid (HE0.out.below FF.out.2 hlow)
            have szw4 := FF.out.2.size
            have KI := Lib.hid (appInt_run w.heap.size y (by obtain ⟨h1, h2⟩ := HI2.out; omega) _ _ w4 FF.out.1 szw4 hlow (by rw [List.length_append]; have : ([32] : List UInt8).length = 1 := rfl; omega) HE4.out)
            refine KI.out.mono ?_
            rintro e w5 ⟨v5, rfl, hown5, b5⟩
            have BEL5 := Lib.hid (FF.out.2.trans b5)
            have HE5 := Lib.hid (HE4.out.below b5 hlow)
            have HOWN5 := Lib.hid hown5
            clear hown5 b5 KI FF
            go_wp2_with fail
            go_roundw
            case rel => exact ⟨1 + 1, v5, by omega, by rfl, rfl, by have := HOWN5.out; simpa [preO] using this, HE5.out, BEL5.out⟩
            case measure => simp [intOf]
          · skip
            have hix := four_at2 (.int .i64 x) (.int .i64 y) (.int .i64 z) (.int .i64 u) wr
            have hlen : (T ++ preO x y z u 2).length ≤ 1400 := by rw [List.length_append]; have := preO_len HI1.out HI2.out HI3.out HI4.out 2; omega
            have HOWN := Lib.hid hown
            clear hown bel hE
            go_wp2_with (first
              | ((with_reducible refine go_byapp (.tmp 25) (.tmp 26) (T ++ preO x y z u 2) 32 _ (by with_unfolding_all rfl) (HOWN.out.alloc _) (by with_unfolding_all rfl) (by with_unfolding_all exact Blk.new wr _ _) (by omega) (by simp; omega) ?_); intro v4 w4 hown4 hgrow; have bel4 : Below w.heap.size w w4 := (BEL.out.alloc (by omega) _).trans (below_of_grown hgrow (by simp; omega) (fun k e => ((HOWN.out).lt k e).1)); have FF := Lib.hid (And.intro hown4 bel4); clear hown4 bel4 hgrow))
            have HE4 := Lib.hid (HE0.out.below FF.out.2 hlow)
            have szw4 := FF.out.2.size
            have KI := Lib.hid (appInt_run w.heap.size z (by obtain ⟨h1, h2⟩ := HI3.out; omega) _ _ w4 FF.out.1 szw4 hlow (by rw [List.length_append]; have : ([32] : List UInt8).length = 1 := rfl; omega) HE4.out)
            refine KI.out.mono ?_
            rintro e w5 ⟨v5, rfl, hown5, b5⟩
            have BEL5 := Lib.hid (FF.out.2.trans b5)
            have HE5 := Lib.hid (HE4.out.below b5 hlow)
            have HOWN5 := Lib.hid hown5
            clear hown5 b5 KI FF
            go_wp2_with fail
            go_roundw
            case rel => exact ⟨2 + 1, v5, by omega, by rfl, rfl, by have := HOWN5.out; simpa [preO] using this, HE5.out, BEL5.out⟩
            case measure => simp [intOf]
          · skip
            have hix := four_at3 (.int .i64 x) (.int .i64 y) (.int .i64 z) (.int .i64 u) wr
            have hlen : (T ++ preO x y z u 3).length ≤ 1400 := by rw [List.length_append]; have := preO_len HI1.out HI2.out HI3.out HI4.out 3; omega
            have HOWN := Lib.hid hown
            clear hown bel hE
            go_wp2_with (first
              | ((with_reducible refine go_byapp (.tmp 25) (.tmp 26) (T ++ preO x y z u 3) 32 _ (by with_unfolding_all rfl) (HOWN.out.alloc _) (by with_unfolding_all rfl) (by with_unfolding_all exact Blk.new wr _ _) (by omega) (by simp; omega) ?_); intro v4 w4 hown4 hgrow; have bel4 : Below w.heap.size w w4 := (BEL.out.alloc (by omega) _).trans (below_of_grown hgrow (by simp; omega) (fun k e => ((HOWN.out).lt k e).1)); have FF := Lib.hid (And.intro hown4 bel4); clear hown4 bel4 hgrow))
            have HE4 := Lib.hid (HE0.out.below FF.out.2 hlow)
            have szw4 := FF.out.2.size
            have KI := Lib.hid (appInt_run w.heap.size u (by obtain ⟨h1, h2⟩ := HI4.out; omega) _ _ w4 FF.out.1 szw4 hlow (by rw [List.length_append]; have : ([32] : List UInt8).length = 1 := rfl; omega) HE4.out)
            refine KI.out.mono ?_
            rintro e w5 ⟨v5, rfl, hown5, b5⟩
            have BEL5 := Lib.hid (FF.out.2.trans b5)
            have HE5 := Lib.hid (HE4.out.below b5 hlow)
            have HOWN5 := Lib.hid hown5
            clear hown5 b5 KI FF
            go_wp2_with fail
            go_roundw
            case rel => exact ⟨3 + 1, v5, by omega, by rfl, rfl, by have := HOWN5.out; simpa [preO] using this, HE5.out, BEL5.out⟩
            case measure => simp [intOf]
          · have hlen : (T ++ preO x y z u 4).length ≤ 1400 := by rw [List.length_append]; have := preO_len HI1.out HI2.out HI3.out HI4.out 4; omega
            have HOWN := Lib.hid hown
            clear hown bel hE
            go_wp2_with (first
              | ((with_reducible refine go_byapp (.tmp 32) (.tmp 33) (T ++ preO x y z u 4) 10 _ (by with_unfolding_all rfl) (HOWN.out.alloc _) (by with_unfolding_all rfl) (by with_unfolding_all exact Blk.new wr _ _) (by omega) (by simp; omega) ?_); intro v4 w4 hown4 hgrow; have bel4 : Below w.heap.size w w4 := (BEL.out.alloc (by omega) _).trans (below_of_grown hgrow (by simp; omega) (fun k e => ((HOWN.out).lt k e).1)); have FF := Lib.hid (And.intro hown4 bel4); clear hown4 bel4 hgrow))
            go_roundw
            case rel => exact ⟨k + 1, _, by omega, rfl, by go_num, by
              have h1 := FF.out.1
              have e : T ++ preO x y z u 4 ++ [10] = fmtOs (l.take (k + 1)) := by
                rw [HTS.out, fmtOs_snoc, HTE.out]
                unfold preO fmtO
                simp
              rw [e] at h1
              exact h1, FF.out.2⟩
            case measure => simp [intOf]; omega
      · obtain rfl : k = n := by omega
        have e1 : decide (k < k) = false := by simp
        have ht : l.take k = l := List.take_of_length_le (by have := HLN.out; omega)
        rw [ht] at hown
        have hcv := conv_own hown
        have BEL := Lib.hid bel
        clear hown bel ht
        go_wp2_with fail
        go_ret
        exact ⟨by rw [R.out]; rfl, BEL.out⟩
end Go.Proofs.YtlpmbjgimllmgaaDoor
