/-
  library.Copy.
-/
import Derived.Test.YteiogjgmedikhaaCopyP09
import Derived.Test.YteiogjgmedikhaaLit09
import Derived.Test.YteiogjgmedikhaaChecked
namespace Go.Proofs.Yteiogjgmedikhaa
open Go Go.RowKit
set_option linter.unusedVariables false

/-- What Copy returns: the same blocks in new memory. -/
def CopyBPost (bs : List BlkL) (w : World) (e : Ending) (w' : World) : Prop :=
  ∃ a cap pl, e = .returned (.slice a bs.length cap) ∧ BlksP (fun g => w.heap.size ≤ g) w' bs a cap pl ∧ Below w.heap.size w w'

set_option maxRecDepth 100000 in
set_option maxHeartbeats 4000000 in
theorem copyB_any (bs : List BlkL) (a : Option Addr) (cap : Nat) (pl : Nat → Place) (w : World) (h : BlksAt w bs a cap pl) (hsl : ∀ (i : Nat) (b : BlkL), bs[i]? = some b → slimB b) (hlen : bs.length ≤ 100000) :
    Calls Try.prog 40 #[.slice a bs.length cap] w (CopyBPost bs w) := by
  have H := Lib.hid h
  have HSL := Lib.hid hsl
  have KC := Lib.hid (clone_block a bs.length cap (blksC bs pl) w h.tab (fun i _ => blksC_one) h.nil hlen)
  clear h hsl
  go_enter Try.func40, Try.ntmps40
  go_wp2_with fail
  refine KC.out.mono ?_
  rintro e w1 ⟨v, rfl, hown, b1⟩
  obtain ⟨a', c', rfl, hrow, hcap⟩ := RowAt.of_own hown (fun i hi => blksC_len hi)
  have HROW := Lib.hid hrow
  have HCAP := Lib.hid hcap
  have B1 := Lib.hid b1
  clear hown hrow b1 hcap
  go_wp2_with fail
  go_loopw [12] (fun s wr => ∃ i : Nat, i ≤ bs.length ∧ s = .int .i64 i ∧ Below w.heap.size w wr ∧ (bs.length = 0 ∨ ∃ g pl', a' = some ⟨g, 0, none⟩ ∧ CopyBAt w bs g i pl' wr)) (fun s _ => bs.length - (intOf s).toNat)
  case atStart =>
    refine ⟨0, by omega, rfl, B1.out, ?_⟩
    rcases HROW.out with h | ⟨g, e, hg, ht⟩
    · exact .inl h
    · exact .inr ⟨g, pl, e, ht, hg, B1.out, fun j b hb _ => H.out.blk j b hb, fun j b _ h => by omega⟩
  case round =>
    obtain ⟨i, hi, rfl, bel, hat⟩ := hrel
    have i0 : (0 : Int) ≤ (i : Int) := by omega
    by_cases hlt : i < bs.length
    · have d1 : decide (i < bs.length) = true := by simpa using hlt
      have i1 : (i : Int) < (bs.length : Int) := by omega
      have hb : bs[i]? = some bs[i] := List.getElem?_eq_getElem hlt
      generalize bs[i] = b at hb
      rcases hat with h0 | ⟨g, pl', rfl, hat⟩
      · omega
      have HA := Lib.hid hat
      have HB := Lib.hid hb
      have hsb := HSL.out i b hb
      have hbo := hat.old i b hb (Nat.le_refl _)
      have KL := Lib.hid (fun W (hb : Below w.heap.size w W) => copied_any 16 b.left (pl' i).left.a (pl' i).left.cap W hsb.left (hbo.left.under hb))
      have KX := Lib.hid (fun W (hb : Below w.heap.size w W) => copied_any 16 b.x (pl' i).x.a (pl' i).x.cap W hsb.x (hbo.x.under hb))
      have KW := Lib.hid (fun W (hb : Below w.heap.size w W) => clone_word (pl' i).words b.words.length (pl' i).cap (wordsC b.words (pl' i).k) W ((hbo.words.under hb).tab) (fun i _ => wordsC_one) hbo.words.nil (by have := hsb.words; omega))
      have KE := Lib.hid (fun (j : Nat) (x : WordL) (hx : b.words[j]? = some x) (aa : Option Addr) (cc : Nat) W (h : ExAt W x.x aa cc) => copied_any 16 x.x aa cc W (hsb.each j x hx) h)
      have HSW := Lib.hid hsb.words
      have hSall : ∀ W, Below wr.heap.size wr W → ∀ j v, (blkC b (pl' i))[j]? = some v → W.cell? ⟨g, i * 11 + j, none⟩ = some v := fun W hb j v hv => by
        rw [hb.cell (p := ⟨g, i * 11 + j, none⟩) HA.out.tab.lt, HA.out.tab.cell hlt (by have := (List.getElem?_eq_some_iff.1 hv).1; simpa [blkC] using this), blksC_at HB.out]
        exact hv
      have HS := Lib.hid hSall
      clear hat hb hsb hbo hSall
      go_wp2_with fail
      refine region_L (fun W => ∀ j v, (blkC b (pl' i))[j]? = some v → W.cell? ⟨g, i * 11 + j, none⟩ = some v) [20, 23, 26] (by kernel_rfl) ?_
      have hS0 := HS.out wr.drew (Below.refl _ _).drew
      refine take_P 0 (v := .pointer (some ⟨g, i * 11, none⟩)) rfl (by kernel_rfl) (by kernel_rfl) (by kernel_rfl) (fun _ _ _ h => h) rfl (fun W' => by go_simp) ?_
      refine take_P 3 (v := .pointer (some ⟨g, i * 11, none⟩)) rfl (by kernel_rfl) (by kernel_rfl) (by kernel_rfl) (fun _ _ _ h => h) rfl (fun W' => by go_simp) ?_
      refine take_P 4 (v := .pointer (some ⟨g, i * 11, none⟩)) rfl (by kernel_rfl) (by kernel_rfl) (by kernel_rfl) (fun _ _ _ h => h) rfl (fun W' => by go_simp) ?_
      refine take_P 5 (v := .pointer (some ⟨g, i * 11 + 4, none⟩)) rfl (by kernel_rfl) (by kernel_rfl) (by kernel_rfl) (fun _ _ _ h => h) rfl (fun W' => by go_simp) ?_
      refine take_L 6 (v := .agg #[.int .i64 b.left.op, .int .i64 b.left.n, .slice (pl' i).left.a b.left.kids.length (pl' i).left.cap]) rfl (by kernel_rfl) (by kernel_rfl) (by kernel_rfl) (by kernel_rfl) (fun _ _ _ h => h) rfl (fun W' hW' => by have e4 := hW' 4 _ rfl; have e5 := hW' 5 _ rfl; have e6 := hW' 6 _ rfl; go_simp) hS0 ?_
      refine take_P 8 (v := .pointer (some ⟨g, i * 11, none⟩)) rfl (by kernel_rfl) (by kernel_rfl) (by kernel_rfl) (fun _ _ _ h => h) rfl (fun W' => by go_simp) ?_
      refine take_P 9 (v := .pointer (some ⟨g, i * 11, none⟩)) rfl (by kernel_rfl) (by kernel_rfl) (by kernel_rfl) (fun _ _ _ h => h) rfl (fun W' => by go_simp) ?_
      refine take_P 10 (v := .pointer (some ⟨g, i * 11 + 7, none⟩)) rfl (by kernel_rfl) (by kernel_rfl) (by kernel_rfl) (fun _ _ _ h => h) rfl (fun W' => by go_simp) ?_
      refine take_L 11 (v := .agg #[.int .i64 b.x.op, .int .i64 b.x.n, .slice (pl' i).x.a b.x.kids.length (pl' i).x.cap]) rfl (by kernel_rfl) (by kernel_rfl) (by kernel_rfl) (by kernel_rfl) (fun _ _ _ h => h) rfl (fun W' hW' => by have e4 := hW' 7 _ rfl; have e5 := hW' 8 _ rfl; have e6 := hW' 9 _ rfl; go_simp) hS0 ?_
      refine take_P 13 (v := .pointer (some ⟨g, i * 11, none⟩)) rfl (by kernel_rfl) (by kernel_rfl) (by kernel_rfl) (fun _ _ _ h => h) rfl (fun W' => by go_simp) ?_
      refine take_P 14 (v := .pointer (some ⟨g, i * 11, none⟩)) rfl (by kernel_rfl) (by kernel_rfl) (by kernel_rfl) (fun _ _ _ h => h) rfl (fun W' => by go_simp) ?_
      refine take_P 15 (v := .pointer (some ⟨g, i * 11 + 3, none⟩)) rfl (by kernel_rfl) (by kernel_rfl) (by kernel_rfl) (fun _ _ _ h => h) rfl (fun W' => by go_simp) ?_
      refine take_L 16 (v := .slice (pl' i).words b.words.length (pl' i).cap) rfl (by kernel_rfl) (by kernel_rfl) (by kernel_rfl) (by kernel_rfl) (fun _ _ _ h => h) rfl (fun W' hW' => by have e4 := hW' 3 _ rfl; go_simp) hS0 ?_
      refine take_P 1 (v := .pointer (some ⟨g, i * 11, none⟩)) rfl (by kernel_rfl) (by kernel_rfl) (by kernel_rfl) (fun _ _ _ h => h) rfl (fun W' => by go_simp) ?_
      refine take_P 2 (v := .pointer (some ⟨g, i * 11, none⟩)) rfl (by kernel_rfl) (by kernel_rfl) (by kernel_rfl) (fun _ _ _ h => h) rfl (fun W' => by go_simp) ?_
      refine one_L 7 (by kernel_rfl) rfl rfl fun K7 hK7 => ?_
      have HK7 := Lib.hid hK7
      clear hK7
      go_simp
      go_at_call 53
      refine (KL.out _ HA.out.bel.drew).mono ?_
      rintro e w2 ⟨al, cl, rfl, hin2, b2⟩
      have b2' : Below wr.heap.size wr w2 := (Below.refl _ _).drew.trans b2
      have bel2 : Below w.heap.size w w2 := HA.out.bel.trans (b2'.mono HA.out.bel.size)
      refine HK7.out _ _ (fun _ _ => HS.out _ b2') ?_
      refine one_L 12 (by kernel_rfl) rfl rfl fun K12 hK12 => ?_
      have HK12 := Lib.hid hK12
      clear hK12
      go_simp
      go_at_call 53
      refine (KX.out _ bel2).mono ?_
      rintro e w3 ⟨ax, cx, rfl, hin3, b3⟩
      have b3' : Below wr.heap.size wr w3 := b2'.trans (b3.mono b2'.size)
      have bel3 : Below w.heap.size w w3 := bel2.trans (b3.mono bel2.size)
      refine HK12.out _ _ (fun _ _ => HS.out _ b3') ?_
      refine one_L 17 (by kernel_rfl) rfl rfl fun K17 hK17 => ?_
      have HK17 := Lib.hid hK17
      clear hK17
      go_simp
      go_at_call 54
      refine (KW.out _ bel3).mono ?_
      rintro e w4 ⟨v4, rfl, hown4, b4⟩
      have b4' : Below wr.heap.size wr w4 := b3'.trans (b4.mono b3'.size)
      refine HK17.out _ _ (fun _ _ => HS.out _ b4') ?_
      obtain ⟨aw, cw, rfl, hwat⟩ := HA.out.enter HB.out b2' hin2 b3 hin3 b4 hown4
      have HWAT := Lib.hid hwat
      have t4 := HA.out.tab.below b4' HA.out.tab.lt
      clear hwat hown4
      refine take_P 18 (v := .pointer (some ⟨g, i * 11, none⟩)) rfl (by kernel_rfl) (by kernel_rfl) (by kernel_rfl) (fun _ _ _ h => h) rfl (fun W' => by go_simp) ?_
      refine take_P 19 (v := .pointer (some ⟨g, i * 11 + 4, none⟩)) rfl (by kernel_rfl) (by kernel_rfl) (by kernel_rfl) (fun _ _ _ h => h) rfl (fun W' => by go_simp) ?_
      refine one_L 20 (by kernel_rfl) rfl rfl fun K20 hK20 => ?_
      have HK20 := Lib.hid hK20
      clear hK20
      refine wp_store_mid 35 (.tmp 37) (.tmp 25) rfl g (i * 11 + 4) #[.int .i64 b.left.op, .int .i64 b.left.n, .slice al b.left.kids.length cl] rfl rfl (t4.therePart hlt (by simp)) (by kernel_rfl) (by simp [Value.oneCell']) ?_
      refine HK20.out _ _ (fun h => absurd h (by decide)) ?_
      have t5 := t4.setPart (k := i) (d := 4) hlt (vs := [.int .i64 b.left.op, .int .i64 b.left.n, .slice al b.left.kids.length cl]) (by simp)
      refine take_P 21 (v := .pointer (some ⟨g, i * 11, none⟩)) rfl (by kernel_rfl) (by kernel_rfl) (by kernel_rfl) (fun _ _ _ h => h) rfl (fun W' => by go_simp) ?_
      refine take_P 22 (v := .pointer (some ⟨g, i * 11 + 7, none⟩)) rfl (by kernel_rfl) (by kernel_rfl) (by kernel_rfl) (fun _ _ _ h => h) rfl (fun W' => by go_simp) ?_
      refine one_L 23 (by kernel_rfl) rfl rfl fun K23 hK23 => ?_
      have HK23 := Lib.hid hK23
      clear hK23
      refine wp_store_mid 35 (.tmp 39) (.tmp 30) rfl g (i * 11 + 7) #[.int .i64 b.x.op, .int .i64 b.x.n, .slice ax b.x.kids.length cx] rfl rfl (t5.therePart hlt (by simp)) (by kernel_rfl) (by simp [Value.oneCell']) ?_
      refine HK23.out _ _ (fun h => absurd h (by decide)) ?_
      have t6 := t5.setPart (k := i) (d := 7) hlt (vs := [.int .i64 b.x.op, .int .i64 b.x.n, .slice ax b.x.kids.length cx]) (by simp)
      refine take_P 24 (v := .pointer (some ⟨g, i * 11, none⟩)) rfl (by kernel_rfl) (by kernel_rfl) (by kernel_rfl) (fun _ _ _ h => h) rfl (fun W' => by go_simp) ?_
      refine take_P 25 (v := .pointer (some ⟨g, i * 11 + 3, none⟩)) rfl (by kernel_rfl) (by kernel_rfl) (by kernel_rfl) (fun _ _ _ h => h) rfl (fun W' => by go_simp) ?_
      have z6 := t6.frozen (i * 11 + 3)
      have c6 := (t6.cell hlt (j := 3) (by decide)).trans (by simp only [if_true]; rw [blksC_at HB.out]; rfl : _ = some (.slice (pl' i).words b.words.length (pl' i).cap))
      refine one_L 26 (by kernel_rfl) rfl rfl fun K26 hK26 => ?_
      have HK26 := Lib.hid hK26
      clear hK26
      go_simp
      refine HK26.out _ _ (fun h => absurd h (by decide)) ?_
      refine done_L (by kernel_rfl) ?_ _
      clear t4 t5 t6 c6 z6 hS0 b2 b3 b4 b2' b3' b4' bel2 bel3 hin2 hin3 HK7 HK12 HK17 HK20 HK23 HK26 KL KX KW
      refine on_told (fun W => CopyWAt w bs g i b pl' aw cw ⟨al, cl⟩ ⟨ax, cx⟩ 0 (pl' i).k W) HWAT.out fun W5 h5 => ?_
      go_simp
      have HW5 := Lib.hid h5
      have f3 := (h5.tab.cell hlt (j := 3) (by decide)).trans (by rw [blksC_at HB.out, if_pos rfl]; rfl : _ = some (.slice aw b.words.length cw))
      clear h5 HWAT
      go_wp2_with fail
      go_loopw [47] (fun s wr => ∃ m : Nat, m ≤ b.words.length ∧ s = .int .i64 m ∧ ∃ kk, CopyWAt w bs g i b pl' aw cw ⟨al, cl⟩ ⟨ax, cx⟩ m kk wr) (fun s _ => b.words.length - (intOf s).toNat)
      case atStart => exact ⟨0, by omega, rfl, _, HW5.out⟩
      case round =>
        rename World => wx
        obtain ⟨m, hm, rfl, kk, hwt⟩ := hrel
        have HT := Lib.hid hwt
        have m0 : (0 : Int) ≤ (m : Int) := by omega
        have hwl := HSW.out
        by_cases hmt : m < b.words.length
        · have d2 : decide (m < b.words.length) = true := by simpa using hmt
          have m1 : (m : Int) < (b.words.length : Int) := by omega
          have hx : b.words[m]? = some b.words[m] := List.getElem?_eq_getElem hmt
          generalize b.words[m] = x at hx
          obtain ⟨gw, rfl, hgw, hto⟩ := hwt.row.some (by omega)
          have cl' : ∀ j, j < 4 → wx.cell? ⟨gw, m * 4 + j, none⟩ = (wordC x (kk m))[j]? := fun j hj => by rw [hto.cell hmt hj, wordsC_at hx]
          have p0 := cl' 0 (by omega)
          have p1 := cl' 1 (by omega)
          have p2 := cl' 2 (by omega)
          have p3 := cl' 3 (by omega)
          simp only [Nat.add_zero, wordC] at p0 p1 p2 p3
          have HX := Lib.hid hx
          have KR := Lib.hid (fun W (hb : Below w.heap.size w W) => KE.out m x hx (kk m).a (kk m).cap W ((hwt.wold m x hx (Nat.le_refl _)).under hb))
          have HN := Lib.hid (Blk.new wx 48 #[.int .i64 x.letter, .int .i64 x.x.op, .int .i64 x.x.n, .slice (kk m).a x.x.kids.length (kk m).cap])
          have f3 := (hwt.tab.cell hlt (j := 3) (by decide)).trans (by rw [blksC_at HB.out, if_pos rfl]; rfl : _ = some (.slice (some ⟨gw, 0, none⟩) b.words.length cw))
          have BV := Lib.hid (show Below wx.heap.size wx (wx.alloc (.cells #[.int .i64 x.letter, .int .i64 x.x.op, .int .i64 x.x.n, .slice (kk m).a x.x.kids.length (kk m).cap] 48)).drew from ((Below.refl _ _).alloc (Nat.le_refl _) _).drew)
          have F3 := Lib.hid f3
          have hS2 : ∀ W, Below (wx.heap.size + 1) (wx.alloc (.cells #[.int .i64 x.letter, .int .i64 x.x.op, .int .i64 x.x.n, .slice (kk m).a x.x.kids.length (kk m).cap] 48)) W → (W.cell? ⟨g, i * 11 + 3, none⟩ = some (.slice (some ⟨gw, 0, none⟩) b.words.length cw) ∧ W.cell? ⟨wx.heap.size, 1, none⟩ = some (.int .i64 x.x.op) ∧ W.cell? ⟨wx.heap.size, 2, none⟩ = some (.int .i64 x.x.n) ∧ W.cell? ⟨wx.heap.size, 3, none⟩ = some (.slice (kk m).a x.x.kids.length (kk m).cap)) := fun W hb => by
            have h1 := HN.out.below hb (by omega)
            have hgl := HT.out.tab.lt
            refine ⟨?_, h1.cell' 1 rfl, h1.cell' 2 rfl, h1.cell' 3 rfl⟩
            rw [hb.cell (p := ⟨g, i * 11 + 3, none⟩) (by show g < _; omega)]
            exact (((Below.refl wx.heap.size wx).alloc (Nat.le_refl _) _).cell (p := ⟨g, i * 11 + 3, none⟩) hgl).trans F3.out
          have HS2 := Lib.hid hS2
          have HGW := Lib.hid hto.lt
          clear cl' hwt hx hto hS2
          go_wp2_with fail
          refine region_L (fun W => W.cell? ⟨g, i * 11 + 3, none⟩ = some (.slice (some ⟨gw, 0, none⟩) b.words.length cw) ∧ W.cell? ⟨wx.heap.size, 1, none⟩ = some (.int .i64 x.x.op) ∧ W.cell? ⟨wx.heap.size, 2, none⟩ = some (.int .i64 x.x.n) ∧ W.cell? ⟨wx.heap.size, 3, none⟩ = some (.slice (kk m).a x.x.kids.length (kk m).cap)) [] (by kernel_rfl) ?_
          have hS0 := HS2.out _ (Below.refl _ _).drew
          refine take_P 0 (v := .pointer (some ⟨g, i * 11, none⟩)) rfl (by kernel_rfl) (by kernel_rfl) (by kernel_rfl) (fun _ _ _ h => h) rfl (fun W' => by go_simp) ?_
          refine take_P 1 (v := .pointer (some ⟨g, i * 11, none⟩)) rfl (by kernel_rfl) (by kernel_rfl) (by kernel_rfl) (fun _ _ _ h => h) rfl (fun W' => by go_simp) ?_
          refine take_P 2 (v := .pointer (some ⟨g, i * 11 + 3, none⟩)) rfl (by kernel_rfl) (by kernel_rfl) (by kernel_rfl) (fun _ _ _ h => h) rfl (fun W' => by go_simp) ?_
          refine take_L 3 (v := .slice (some ⟨gw, 0, none⟩) b.words.length cw) rfl (by kernel_rfl) (by kernel_rfl) (by kernel_rfl) (by kernel_rfl) (fun _ _ _ h => h) rfl (fun W' hW' => by obtain ⟨e0, e1, e2, e3⟩ := hW'; go_simp) hS0 ?_
          refine take_P 4 (v := .int .i64 m) rfl (by kernel_rfl) (by kernel_rfl) (by kernel_rfl) (fun _ _ _ h => h) rfl (fun W' => by go_simp) ?_
          refine take_P 5 (v := .pointer (some ⟨wx.heap.size, 1, none⟩)) rfl (by kernel_rfl) (by kernel_rfl) (by kernel_rfl) (fun _ _ _ h => h) rfl (fun W' => by go_simp) ?_
          refine take_L 6 (v := .agg #[.int .i64 x.x.op, .int .i64 x.x.n, .slice (kk m).a x.x.kids.length (kk m).cap]) rfl (by kernel_rfl) (by kernel_rfl) (by kernel_rfl) (by kernel_rfl) (fun _ _ _ h => h) rfl (fun W' hW' => by obtain ⟨e0, e1, e2, e3⟩ := hW'; go_simp) hS0 ?_
          refine one_L 7 (by kernel_rfl) rfl rfl fun K7 hK7 => ?_
          have HK7 := Lib.hid hK7
          clear hK7
          go_simp
          go_at_call 53
          refine (KR.out _ (HT.out.bel.trans (BV.out.mono HT.out.bel.size))).mono ?_
          rintro e w6 ⟨a6, c6, rfl, hin6, b6⟩
          have b6' : Below wx.heap.size wx w6 := BV.out.trans (b6.mono (by simp [World.drew]))
          have b6'' : Below (wx.heap.size + 1) (wx.alloc (.cells #[.int .i64 x.letter, .int .i64 x.x.op, .int .i64 x.x.n, .slice (kk m).a x.x.kids.length (kk m).cap] 48)) w6 := (Below.refl _ _).drew.trans (b6.mono (by simp [World.drew]))
          refine HK7.out _ _ (fun _ _ => HS2.out _ b6'') ?_
          have HST := Lib.hid (HT.out.step HX.out b6' rfl (hin6.mono (by simp [World.drew])))
          have hto6 : OwnTab w6 gw 48 4 b.words.length (wordsC b.words kk) := by
            obtain ⟨q, e, _, ht⟩ := HT.out.row.some (by omega)
            injection e with e
            injection e with e
            subst e
            exact ht.below b6' ht.lt
          refine take_P 8 (v := .pointer (some ⟨gw, m * 4, none⟩)) rfl (by kernel_rfl) (by kernel_rfl) (by kernel_rfl) (fun _ _ _ h => h) rfl (fun W' => by go_simp) ?_
          refine take_P 9 (v := .pointer (some ⟨gw, m * 4 + 1, none⟩)) rfl (by kernel_rfl) (by kernel_rfl) (by kernel_rfl) (fun _ _ _ h => h) rfl (fun W' => by go_simp) ?_
          refine one_L 10 (by kernel_rfl) rfl rfl fun K10 hK10 => ?_
          have HK10 := Lib.hid hK10
          clear hK10
          refine wp_store_mid 35 (.tmp 61) (.tmp 59) rfl gw (m * 4 + 1) #[.int .i64 x.x.op, .int .i64 x.x.n, .slice a6 x.x.kids.length c6] rfl rfl (hto6.therePart hmt (by simp)) (by kernel_rfl) (by simp [Value.oneCell']) ?_
          refine HK10.out _ _ (fun _ _ => ?_) ?_
          · have hn4 := (HN.out.below b6'' (by omega)).setCellsFar (g' := gw) (by have := HGW.out; omega) (exC x.x.op x.x.n a6 x.x.kids.length c6) (m * 4 + 1) _
            have h3 := (HST.out.tab.cell hlt (j := 3) (by decide)).trans (by rw [blksC_at HB.out, if_pos rfl]; rfl : _ = some (.slice (some ⟨gw, 0, none⟩) b.words.length cw))
            exact ⟨h3, hn4.cell' 1 rfl, hn4.cell' 2 rfl, hn4.cell' 3 rfl⟩
          refine done_L (by kernel_rfl) ?_ _
          clear hS0 b6 b6' b6'' hin6 HK7 HK10 KR hto6 HN BV F3 HS2 f3 p0 p1 p2 p3
          go_simp
          go_wp2_with fail
          go_roundw
          case rel => exact ⟨m + 1, by omega, by go_num, _, HST.out⟩
          case measure => simp [intOf]; omega
        · obtain rfl : m = b.words.length := by omega
          have d2 : decide (b.words.length < b.words.length) = false := by simp
          have HNX := Lib.hid (hwt.next HB.out)
          clear hwt
          go_wp2_with fail
          go_roundw
          case rel => exact ⟨i + 1, by omega, by go_num, HNX.out.bel, .inr ⟨g, _, rfl, HNX.out⟩⟩
          case measure => simp [intOf]; omega
    · obtain rfl : i = bs.length := by omega
      have d1 : decide (bs.length < bs.length) = false := by simp
      have HAT := Lib.hid hat
      have BEL := Lib.hid bel
      clear hat bel
      go_wp2_with fail
      go_ret
      rcases HAT.out with h0 | ⟨g, pl', e, hat⟩
      · exact ⟨a', c', pl, rfl, ⟨.inl h0, fun i b hb => by have := (List.getElem?_eq_some_iff.1 hb).1; omega, HCAP.out⟩, BEL.out⟩
      · exact ⟨a', c', pl', rfl, ⟨.inr ⟨g, e, hat.far, hat.tab⟩, fun i b hb => (hat.new i b hb (List.getElem?_eq_some_iff.1 hb).1).imp fun q hq _ => by have := hat.far; omega, HCAP.out⟩, BEL.out⟩
end Go.Proofs.Yteiogjgmedikhaa
