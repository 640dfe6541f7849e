/-
  LexStrange returns true. Its arguments: any.
-/
import Derived.Test.YtiphekdahmiaeaaDoorDoor05
import Derived.Test.YtiphekdahmiaeaaDoorChain05
import Derived.OpenShut
import Derived.Laws.IdiomStrings
namespace Go.Proofs.YtiphekdahmiaeaaDoor
open Go Go.RowKit
set_option linter.unusedVariables false
attribute [local go_sem ↓] ix_run

theorem no59 {s : ByteArray} (h : ∀ k, k < s.size → byt s k ≠ 59) : (59 : UInt8) ∉ bl s := by
  intro hm
  obtain ⟨k, hk, e⟩ := List.mem_iff_getElem.1 hm
  rw [bl_len] at hk
  refine h k hk ?_
  unfold byt
  rw [List.getD_eq_getElem?_getD, List.getElem?_eq_getElem (by rw [bl_len]; exact hk), e]
  rfl
def oddP (c : Int) : Prop := (97 ≤ c ∧ c ≤ 122) ∨ 128 ≤ c ∨ c < 9 ∨ c = 37 ∨ c = 36 ∨ c = 10 ∨ c = 46 ∨ c = 40 ∨ c = 41
instance (c : Int) : Decidable (oddP c) := inferInstanceAs (Decidable (_ ∨ _))
theorem odd_step (c : UInt8) (h : oddP (c.toNat : Int)) : stepL [c] = none := by
  have hall : ∀ n : Nat, n < 256 → oddP (n : Int) → stepL [UInt8.ofNat n] = none := by decide +kernel
  have := hall c.toNat c.toNat_lt h
  rwa [UInt8.ofNat_toNat] at this
theorem strange {l : List UInt8} {ts : List TokL} (c : UInt8) (h : lexT l 0 = .ok ts) (h59 : (59 : UInt8) ∉ l) (ho : oddP (c.toNat : Int)) : lexT (l ++ [32] ++ [c]) 0 = .bad (l.length + 1) := by
  rw [List.append_assoc]
  show lexT (l ++ (32 :: [c])) 0 = _
  rw [lex_sep h h59 (.inr ⟨32, [c], rfl, .inl rfl⟩)]
  rw [lex_space, lexT_bad (by simp) (odd_step c ho)]
  rfl
def Strange (c : Int) (r1 r2 : Res) (n : Nat) : Prop := (∃ ts, r1 = .ok ts) → oddP c → r2 = .bad (n + 1)

theorem conv1 (d : Int) (h0 : 0 ≤ d) (h1 : d ≤ 255) (W : World) : (convert 46 9 (.slice (some ⟨W.heap.size, 0, none⟩) 1 1)).run Tryd.prog (W.alloc (.cells #[.int .u8 d] 5)) = .ok (.string (mkB [UInt8.ofNat d.toNat])) (W.alloc (.cells #[.int .u8 d] 5)) := by
  refine run_convert_bytes_back (W.alloc (.cells #[.int .u8 d] 5)) 46 9 5 ⟨W.heap.size, 0, none⟩ 1 [UInt8.ofNat d.toNat] Tryd.underlying46 Tryd.underlying5 Tryd.underlying9 fun j hj => ?_
  obtain rfl : j = 0 := by simp at hj; omega
  rw [Addr.add_mid, Nat.zero_add, (Blk.new W 5 #[.int .u8 d]).cell]
  simp
  omega
set_option maxRecDepth 100000 in
set_option maxHeartbeats 4000000 in
theorem lstrange_walk (a : Option Addr) (n c : Nat) (z : List Int) (d : Int) (w : World) (hN : NamesIs w) (hw0 : 0 < w.heap.size) (hz : IsRow .i64 w a n c z) (hd : (Lit.int .u8 d).wf = true) :
    Calls Tryd.prog 9 #[.slice a n c, .int .u8 d] w fun e w' => e = .returned (.bool true) ∧ Below w.heap.size w w' := by
  have hnm := hz.most
  obtain ⟨hd0, hd1⟩ : 0 ≤ d ∧ d ≤ 255 := Go.bounds_u8 hd
  have KL := light_any w a n c
  by_cases h120 : n ≤ 120
  · rw [decide_eq_true h120] at KL
    have KL := Lib.hid KL
    have KN := Lib.hid (tape_new w a n c z hz (by omega))
    clear hz hd
    go_enter Tryd.func9, Tryd.ntmps9
    go_wp2_with fail
    refine KL.out.mono ?_
    rintro e w' ⟨rfl, rfl⟩
    go_wp2_with fail
    refine KN.out.mono ?_
    rintro e w1 ⟨rfl, hs1, b1⟩
    have KLN := Lib.hid (line_any w1 w.heap.size w.heap.size a n c (fun i => z.getD i 0) ⟨0, hs1⟩)
    clear hs1 KN KL
    go_wp2_with fail
    refine KLN.out.mono ?_
    rintro e w2 ⟨L, hL, rfl, _, g2⟩
    have b2 : Below w.heap.size w w2 := b1.trans (below_of_grown g2 b1.size (fun k e => by have := Option.some.inj e; omega))
    have hsz2 := b2.size
    clear b1 g2 KLN
    go_wp2_with fail
    go_loopw [6] (fun s6 wr => ∃ i : Nat, i ≤ L.size ∧ s6 = .int .i64 i ∧ (∀ k, k < i → byt L k ≠ 59) ∧ w2 = wr)
      (fun s6 _ => L.size - (intOf s6).toNat)
    case atStart => exact ⟨0, by omega, rfl, fun k h => by omega, rfl⟩
    case round =>
      obtain ⟨i, hi, rfl, hall, rfl⟩ := hrel
      have HA := Lib.hid hall
      clear hall
      have i0 : (0 : Int) ≤ (i : Int) := by omega
      by_cases hlt : i < L.size
      · have d1 : decide (i < L.size) = true := by simpa using hlt
        by_cases h59 : byt L i = 59
        · have t59 := eqB h59
          have KA := Lib.hid (awake_true w2 (hN.below b2 hw0) (by omega))
          clear h59
          go_wp2_with fail
          refine KA.out.mono ?_
          rintro e w3 ⟨rfl, b3⟩
          go_wp2_with fail
          go_ret
          exact ⟨rfl, b2.trans (b3.mono hsz2)⟩
        · have t59 := neB h59
          have H59 := Lib.hid h59
          clear h59
          go_wp2_with fail
          go_roundw
          case rel => exact ⟨i + 1, by omega, by go_num, fun k hk => by
            by_cases e : k = i
            · subst e; exact H59.out
            · exact HA.out k (by omega), trivial⟩
          case measure => simp [intOf]; omega
      · obtain rfl : i = L.size := by omega
        have d1 : decide (L.size < L.size) = false := by simp
        have H59 := Lib.hid (no59 HA.out)
        clear HA
        go_wp2_with fail
        refine (tokens_u L (by omega) w2 (hN.below b2 hw0) (by omega)).mono ?_
        rintro e w3 ⟨a3, c3, rfl, t3, b3', _⟩
        have b3 := b2.trans (b3'.mono hsz2)
        have hsz3 := b3.size
        have hl1 := tsOf_len L
        clear t3 b3' b2
        obtain ⟨r1, er1⟩ : ∃ r1, lexT (bl L) 0 = r1 := ⟨_, rfl⟩
        rw [er1] at hl1 ⊢
        have ER1 := Lib.hid er1
        clear er1
        have cv := conv1 d hd0 hd1 w3
        have cD := bl_mkB [UInt8.ofNat d.toNat]
        have cS := mkB_size [UInt8.ofNat d.toNat]
        generalize mkB [UInt8.ofNat d.toNat] = D at *
        have CD := Lib.hid cD
        have hD : D.size ≤ 1 := by rw [cS]; simp
        have s32 : (⟨#[32]⟩ : ByteArray).size = 1 := rfl
        have hsz : (L ++ ⟨#[32]⟩ ++ D).size = L.size + 1 + D.size := by rw [size_app, size_app, s32]
        have hg1 : ¬ L.size + (⟨#[32]⟩ : ByteArray).size > 9223372036854775807 := by omega
        have hg2 : ¬ (L ++ ⟨#[32]⟩).size + D.size > 9223372036854775807 := by rw [size_app]; omega
        have HSZ := Lib.hid hsz
        have bel4 : Below w.heap.size w (w3.alloc (.cells #[.int .u8 d] 5)) := b3.alloc hsz3 _
        have hstr : Strange d r1 (lexT (bl (L ++ ⟨#[32]⟩ ++ D)) 0) L.size := by
          rintro ⟨ts, hts⟩ ho
          have hd' : ((UInt8.ofNat d.toNat).toNat : Int) = d := by simp; omega
          have := strange (UInt8.ofNat d.toNat) (ER1.out.trans hts) H59.out (by rw [hd']; exact ho)
          rw [bl_append, bl_append, CD.out, show bl ⟨#[32]⟩ = [32] from rfl, this, bl_len]
        have HSTR := Lib.hid hstr
        have hN4 := hN.below bel4 hw0
        clear cS cD hsz s32 hstr
        go_wp2_with fail
        have KT := Lib.hid (tokens_u _ (by rw [HSZ.out]; omega : (L ++ ⟨#[32]⟩ ++ D).size ≤ 1000000) _ hN4 (by simp))
        refine KT.out.mono ?_
        rintro e w5 ⟨a5, c5, rfl, t5, b5', _⟩
        have b5 := bel4.trans (b5'.mono bel4.size)
        have hsz5 := b5.size
        clear t5 b5' bel4 cv hg1 hg2 KT
        generalize lexT (bl (L ++ ⟨#[32]⟩ ++ D)) 0 = r2 at *
        have HS2 : Hid (Strange d r1 r2 L.size) := Lib.hid (by first | exact HSTR.out | assumption)
        clear HSTR
        generalize (L ++ ⟨#[32]⟩ ++ D).size = N2 at *
        have hways : (97 ≤ d ∧ d ≤ 122) ∨ (122 < d ∧ 128 ≤ d) ∨ (122 < d ∧ d < 128) ∨ d < 9 ∨ d = 37 ∨ d = 36 ∨ d = 10 ∨ d = 46 ∨ d = 40 ∨ d = 41 ∨ (9 ≤ d ∧ d < 97 ∧ d ≠ 37 ∧ d ≠ 36 ∧ d ≠ 10 ∧ d ≠ 46 ∧ d ≠ 40 ∧ d ≠ 41) := by omega
        have KA := Lib.hid (awake_true w5 (hN.below b5 hw0) (by omega))
        have hL1 : (L.size : Int) + 1 ≤ 1000 := by omega
        clear HSZ H59 hN4
        rcases hways with ⟨v1, v2⟩ | ⟨v1, v2⟩ | ⟨v1, v2⟩ | v1 | rfl | rfl | rfl | rfl | rfl | rfl | ⟨v1, v2, v3, v4, v5, v6, v7, v8⟩
        · have f1 : decide (97 ≤ d) = true := by simpa using v1
          have f2 : decide (d ≤ 122) = true := by simpa using v2
          cases r1 with
          | bad q =>
            clear HS2
            generalize nOf N2 r2 = x2
            generalize eOf r2 = y2
            generalize (tsOf r2).length = t2
            simp only [tsOf, nOf, eOf]
            go_wp2_with fail
            refine KA.out.mono ?_
            rintro e w6 ⟨rfl, b6⟩
            go_wp2_with fail
            go_ret
            exact ⟨rfl, b5.trans (b6.mono hsz5)⟩
          | ok ts =>
            have e2 := HS2.out ⟨ts, rfl⟩ (by unfold oddP; omega)
            subst e2
            clear HS2
            simp only [tsOf, nOf, eOf]
            have eqn : (((L.size + 1 : Nat) : Int) == (L.size : Int) + 1) = true := by simp
            rw [Int.natCast_succ]
            go_wp2_with fail
            refine KA.out.mono ?_
            rintro e w6 ⟨rfl, b6⟩
            go_wp2_with fail
            go_ret
            exact ⟨rfl, b5.trans (b6.mono hsz5)⟩
        · have f1 : decide (97 ≤ d) = true := by simp; omega
          have f2 : decide (d ≤ 122) = false := by simp; omega
          have f3 : decide (128 ≤ d) = true := by simp; omega
          cases r1 with
          | bad q =>
            clear HS2
            generalize nOf N2 r2 = x2
            generalize eOf r2 = y2
            generalize (tsOf r2).length = t2
            simp only [tsOf, nOf, eOf]
            go_wp2_with fail
            refine KA.out.mono ?_
            rintro e w6 ⟨rfl, b6⟩
            go_wp2_with fail
            go_ret
            exact ⟨rfl, b5.trans (b6.mono hsz5)⟩
          | ok ts =>
            have e2 := HS2.out ⟨ts, rfl⟩ (by unfold oddP; omega)
            subst e2
            clear HS2
            simp only [tsOf, nOf, eOf]
            have eqn : (((L.size + 1 : Nat) : Int) == (L.size : Int) + 1) = true := by simp
            rw [Int.natCast_succ]
            go_wp2_with fail
            refine KA.out.mono ?_
            rintro e w6 ⟨rfl, b6⟩
            go_wp2_with fail
            go_ret
            exact ⟨rfl, b5.trans (b6.mono hsz5)⟩
        · have f1 : decide (97 ≤ d) = true := by simp; omega
          have f2 : decide (d ≤ 122) = false := by simp; omega
          have f3 : decide (128 ≤ d) = false := by simp; omega
          have f4 : decide (d < 9) = false := by simp; omega
          have g37 := neB (show d ≠ 37 by omega)
          have g36 := neB (show d ≠ 36 by omega)
          have g10 := neB (show d ≠ 10 by omega)
          have g46 := neB (show d ≠ 46 by omega)
          have g40 := neB (show d ≠ 40 by omega)
          have g41 := neB (show d ≠ 41 by omega)
          cases r1 with
          | bad q =>
            clear HS2
            generalize nOf N2 r2 = x2
            generalize eOf r2 = y2
            generalize (tsOf r2).length = t2
            simp only [tsOf, nOf, eOf]
            go_wp2_with fail
            refine KA.out.mono ?_
            rintro e w6 ⟨rfl, b6⟩
            go_wp2_with fail
            go_ret
            exact ⟨rfl, b5.trans (b6.mono hsz5)⟩
          | ok ts =>
            clear HS2
            generalize nOf N2 r2 = x2
            generalize eOf r2 = y2
            generalize (tsOf r2).length = t2
            simp only [tsOf, nOf, eOf]
            go_wp2_with fail
            refine KA.out.mono ?_
            rintro e w6 ⟨rfl, b6⟩
            go_wp2_with fail
            go_ret
            exact ⟨rfl, b5.trans (b6.mono hsz5)⟩
        · have f1 : decide (97 ≤ d) = false := by simp; omega
          have f3 : decide (128 ≤ d) = false := by simp; omega
          have f4 : decide (d < 9) = true := by simp; omega
          cases r1 with
          | bad q =>
            clear HS2
            generalize nOf N2 r2 = x2
            generalize eOf r2 = y2
            generalize (tsOf r2).length = t2
            simp only [tsOf, nOf, eOf]
            go_wp2_with fail
            refine KA.out.mono ?_
            rintro e w6 ⟨rfl, b6⟩
            go_wp2_with fail
            go_ret
            exact ⟨rfl, b5.trans (b6.mono hsz5)⟩
          | ok ts =>
            have e2 := HS2.out ⟨ts, rfl⟩ (by unfold oddP; omega)
            subst e2
            clear HS2
            simp only [tsOf, nOf, eOf]
            have eqn : (((L.size + 1 : Nat) : Int) == (L.size : Int) + 1) = true := by simp
            rw [Int.natCast_succ]
            go_wp2_with fail
            refine KA.out.mono ?_
            rintro e w6 ⟨rfl, b6⟩
            go_wp2_with fail
            go_ret
            exact ⟨rfl, b5.trans (b6.mono hsz5)⟩
        · cases r1 with
          | bad q =>
            clear HS2
            generalize nOf N2 r2 = x2
            generalize eOf r2 = y2
            generalize (tsOf r2).length = t2
            simp only [tsOf, nOf, eOf]
            go_wp2_with fail
            refine KA.out.mono ?_
            rintro e w6 ⟨rfl, b6⟩
            go_wp2_with fail
            go_ret
            exact ⟨rfl, b5.trans (b6.mono hsz5)⟩
          | ok ts =>
            have e2 := HS2.out ⟨ts, rfl⟩ (by unfold oddP; omega)
            subst e2
            clear HS2
            simp only [tsOf, nOf, eOf]
            have eqn : (((L.size + 1 : Nat) : Int) == (L.size : Int) + 1) = true := by simp
            rw [Int.natCast_succ]
            go_wp2_with fail
            refine KA.out.mono ?_
            rintro e w6 ⟨rfl, b6⟩
            go_wp2_with fail
            go_ret
            exact ⟨rfl, b5.trans (b6.mono hsz5)⟩
        · cases r1 with
          | bad q =>
            clear HS2
            generalize nOf N2 r2 = x2
            generalize eOf r2 = y2
            generalize (tsOf r2).length = t2
            simp only [tsOf, nOf, eOf]
            go_wp2_with fail
            refine KA.out.mono ?_
            rintro e w6 ⟨rfl, b6⟩
            go_wp2_with fail
            go_ret
            exact ⟨rfl, b5.trans (b6.mono hsz5)⟩
          | ok ts =>
            have e2 := HS2.out ⟨ts, rfl⟩ (by unfold oddP; omega)
            subst e2
            clear HS2
            simp only [tsOf, nOf, eOf]
            have eqn : (((L.size + 1 : Nat) : Int) == (L.size : Int) + 1) = true := by simp
            rw [Int.natCast_succ]
            go_wp2_with fail
            refine KA.out.mono ?_
            rintro e w6 ⟨rfl, b6⟩
            go_wp2_with fail
            go_ret
            exact ⟨rfl, b5.trans (b6.mono hsz5)⟩
        · cases r1 with
          | bad q =>
            clear HS2
            generalize nOf N2 r2 = x2
            generalize eOf r2 = y2
            generalize (tsOf r2).length = t2
            simp only [tsOf, nOf, eOf]
            go_wp2_with fail
            refine KA.out.mono ?_
            rintro e w6 ⟨rfl, b6⟩
            go_wp2_with fail
            go_ret
            exact ⟨rfl, b5.trans (b6.mono hsz5)⟩
          | ok ts =>
            have e2 := HS2.out ⟨ts, rfl⟩ (by unfold oddP; omega)
            subst e2
            clear HS2
            simp only [tsOf, nOf, eOf]
            have eqn : (((L.size + 1 : Nat) : Int) == (L.size : Int) + 1) = true := by simp
            rw [Int.natCast_succ]
            go_wp2_with fail
            refine KA.out.mono ?_
            rintro e w6 ⟨rfl, b6⟩
            go_wp2_with fail
            go_ret
            exact ⟨rfl, b5.trans (b6.mono hsz5)⟩
        · cases r1 with
          | bad q =>
            clear HS2
            generalize nOf N2 r2 = x2
            generalize eOf r2 = y2
            generalize (tsOf r2).length = t2
            simp only [tsOf, nOf, eOf]
            go_wp2_with fail
            refine KA.out.mono ?_
            rintro e w6 ⟨rfl, b6⟩
            go_wp2_with fail
            go_ret
            exact ⟨rfl, b5.trans (b6.mono hsz5)⟩
          | ok ts =>
            have e2 := HS2.out ⟨ts, rfl⟩ (by unfold oddP; omega)
            subst e2
            clear HS2
            simp only [tsOf, nOf, eOf]
            have eqn : (((L.size + 1 : Nat) : Int) == (L.size : Int) + 1) = true := by simp
            rw [Int.natCast_succ]
            go_wp2_with fail
            refine KA.out.mono ?_
            rintro e w6 ⟨rfl, b6⟩
            go_wp2_with fail
            go_ret
            exact ⟨rfl, b5.trans (b6.mono hsz5)⟩
        · cases r1 with
          | bad q =>
            clear HS2
            generalize nOf N2 r2 = x2
            generalize eOf r2 = y2
            generalize (tsOf r2).length = t2
            simp only [tsOf, nOf, eOf]
            go_wp2_with fail
            refine KA.out.mono ?_
            rintro e w6 ⟨rfl, b6⟩
            go_wp2_with fail
            go_ret
            exact ⟨rfl, b5.trans (b6.mono hsz5)⟩
          | ok ts =>
            have e2 := HS2.out ⟨ts, rfl⟩ (by unfold oddP; omega)
            subst e2
            clear HS2
            simp only [tsOf, nOf, eOf]
            have eqn : (((L.size + 1 : Nat) : Int) == (L.size : Int) + 1) = true := by simp
            rw [Int.natCast_succ]
            go_wp2_with fail
            refine KA.out.mono ?_
            rintro e w6 ⟨rfl, b6⟩
            go_wp2_with fail
            go_ret
            exact ⟨rfl, b5.trans (b6.mono hsz5)⟩
        · cases r1 with
          | bad q =>
            clear HS2
            generalize nOf N2 r2 = x2
            generalize eOf r2 = y2
            generalize (tsOf r2).length = t2
            simp only [tsOf, nOf, eOf]
            go_wp2_with fail
            refine KA.out.mono ?_
            rintro e w6 ⟨rfl, b6⟩
            go_wp2_with fail
            go_ret
            exact ⟨rfl, b5.trans (b6.mono hsz5)⟩
          | ok ts =>
            have e2 := HS2.out ⟨ts, rfl⟩ (by unfold oddP; omega)
            subst e2
            clear HS2
            simp only [tsOf, nOf, eOf]
            have eqn : (((L.size + 1 : Nat) : Int) == (L.size : Int) + 1) = true := by simp
            rw [Int.natCast_succ]
            go_wp2_with fail
            refine KA.out.mono ?_
            rintro e w6 ⟨rfl, b6⟩
            go_wp2_with fail
            go_ret
            exact ⟨rfl, b5.trans (b6.mono hsz5)⟩
        · have f1 : decide (97 ≤ d) = false := by simp; omega
          have f3 : decide (128 ≤ d) = false := by simp; omega
          have f4 : decide (d < 9) = false := by simp; omega
          have g37 := neB v3
          have g36 := neB v4
          have g10 := neB v5
          have g46 := neB v6
          have g40 := neB v7
          have g41 := neB v8
          cases r1 with
          | bad q =>
            clear HS2
            generalize nOf N2 r2 = x2
            generalize eOf r2 = y2
            generalize (tsOf r2).length = t2
            simp only [tsOf, nOf, eOf]
            go_wp2_with fail
            refine KA.out.mono ?_
            rintro e w6 ⟨rfl, b6⟩
            go_wp2_with fail
            go_ret
            exact ⟨rfl, b5.trans (b6.mono hsz5)⟩
          | ok ts =>
            clear HS2
            generalize nOf N2 r2 = x2
            generalize eOf r2 = y2
            generalize (tsOf r2).length = t2
            simp only [tsOf, nOf, eOf]
            go_wp2_with fail
            refine KA.out.mono ?_
            rintro e w6 ⟨rfl, b6⟩
            go_wp2_with fail
            go_ret
            exact ⟨rfl, b5.trans (b6.mono hsz5)⟩
  · rw [decide_eq_false h120] at KL
    have KL := Lib.hid KL
    have KA := Lib.hid (awake_true w hN hw0)
    clear hz
    go_enter Tryd.func9, Tryd.ntmps9
    go_wp2_with fail
    refine KL.out.mono ?_
    rintro e w' ⟨rfl, rfl⟩
    go_wp2_with fail
    refine KA.out.mono ?_
    rintro e w1 ⟨rfl, b1⟩
    go_wp2_with fail
    go_ret
    exact ⟨rfl, b1⟩
end Go.Proofs.YtiphekdahmiaeaaDoor
