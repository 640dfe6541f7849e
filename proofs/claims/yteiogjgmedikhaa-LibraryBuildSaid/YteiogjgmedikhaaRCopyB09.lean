/-
  cncref09.Copied.
-/
import Derived.Test.YteiogjgmedikhaaRCopyP09
import Derived.Test.YteiogjgmedikhaaRCopied09
import Derived.Test.YteiogjgmedikhaaCopyB09
import Derived.Deep.WholeRow
namespace Go.Proofs.Yteiogjgmedikhaa
open Go Go.RowKit
set_option linter.unusedVariables false

/-- A block goes into a new variable. -/
theorem store_newB (W : World) (cs : List Value) (hl : cs.length = 11) (h1 : ∀ u ∈ cs, u.oneCell' = true) :
    (storeCells ⟨W.heap.size, 0, none⟩ cs 0).run Try.prog (W.alloc (.cells #[.int .i64 0, .int .i64 0, .bool false, .slice none 0 0, .int .i64 0, .int .i64 0, .slice none 0 0, .int .i64 0, .int .i64 0, .slice none 0 0, .int .i64 0] 37)) = .ok () (W.alloc (.cells cs.toArray 37)) := by
  have := run_storeCells_new (P := Try.prog) W 37 #[.int .i64 0, .int .i64 0, .bool false, .slice none 0 0, .int .i64 0, .int .i64 0, .slice none 0 0, .int .i64 0, .int .i64 0, .slice none 0 0, .int .i64 0] cs.toArray (by rw [List.size_toArray, hl]; kernel_rfl) (by simp [hl]) (all_oneCell_toArray h1)
  simpa using this

theorem Blk.there {w : World} {g : Nat} {T : TypeId} {cs : Array Value} (h : Blk w g T cs) {d m : Nat} (hd : d + m ≤ cs.size) : w.there g d m := fun j hj => by
  refine ⟨?_, h.frozen _⟩
  rw [h.cell, Array.getElem?_eq_getElem (by omega)]; rfl
set_option maxRecDepth 100000 in
set_option maxHeartbeats 4000000 in
theorem rcopyB_any (bs : List BlkL) (a : Option Addr) (cap : Nat) (pl : Nat → Place) (w : World) (h : BlksAt w bs a cap pl) (hsl : ∀ (i : Nat) (b : BlkL), bs[i]? = some b → slimB b) (hlen : bs.length ≤ 100000) :
    Calls Try.prog 43 #[.slice a bs.length cap] w (CopyBPost bs w) := by
  have H := Lib.hid h
  have HSL := Lib.hid hsl
  clear h hsl
  go_enter Try.func43, Try.ntmps43
  go_wp2_with fail
  go_loopw [3, 4] (fun s3 s4 wr => ∃ i : Nat, i ≤ bs.length ∧ s4 = .int .i64 i ∧ ∃ pl', ROuterAt w bs i s3 pl' wr) (fun _ s _ => bs.length - (intOf s).toNat)
  case atStart => exact ⟨0, by omega, rfl, pl, World.ownsRow_nil _ _ _ _, Below.refl _ _, fun j b _ h => by omega⟩
  case round =>
    obtain ⟨i, hi, rfl, pl', hat⟩ := hrel
    have HA := Lib.hid hat
    have i0 : (0 : Int) ≤ (i : Int) := by omega
    by_cases hlt : i < bs.length
    · have d1 : decide (i < bs.length) = true := by simpa using hlt
      have i1 : (i : Int) < (bs.length : Int) := by omega
      have hb : bs[i]? = some bs[i] := List.getElem?_eq_getElem hlt
      generalize bs[i] = b at hb
      obtain ⟨hl, sb, so, rfl, hsb, hcc⟩ := H.out.tab i hlt
      have hsl := HSL.out i b hb
      have HB := Lib.hid hb
      have hR : ∀ W, Below w.heap.size w W → W.rangeAt sb (so + i * 11) (blkC b (pl i)) := fun W hbW j v hv => by
        rw [hbW.cell (p := ⟨sb, so + i * 11 + j, none⟩) hsb, hcc j (by have := (List.getElem?_eq_some_iff.1 hv).1; simpa [blkC] using this), blksC_at HB.out]
        exact hv
      have HR := Lib.hid hR
      have hbo := H.out.blk i b hb
      have KL := Lib.hid (fun W (hb : Below w.heap.size w W) => rcopied_any 16 b.left (pl i).left.a (pl i).left.cap W hsl.left (hbo.left.under hb))
      have KX := Lib.hid (fun W (hb : Below w.heap.size w W) => rcopied_any 16 b.x (pl i).x.a (pl i).x.cap W hsl.x (hbo.x.under hb))
      have KE := Lib.hid (fun (j : Nat) (x : WordL) (hx : b.words[j]? = some x) W (hb : Below w.heap.size w W) => rcopied_any 16 x.x _ _ W (hsl.each j x hx) ((hbo.words.tree j x hx).under hb))
      have HSW := Lib.hid hsl.words
      have HBW := Lib.hid hbo.words
      have HSB := Lib.hid hsb
      have r0 := HR.out wr hat.bel
      clear hat hb hsl hbo hR hl hcc hsb
      have SN := store_newB wr (blkC b (pl i)) rfl blkC_one
      go_wp2_with (first
        | ((with_reducible refine wpList_load_mid (P := Try.prog) rfl 37 (.tmp 15) rfl sb (so + i * 11) rfl (blkC b (pl i)) _ r0 Try.underlying37 rfl (by kernel_rfl) ?_)))
      have hS0 : ∀ W, Below wr.heap.size wr W → ∀ j v, (blkC b (pl i))[j]? = some v → W.cell? ⟨sb, so + i * 11 + j, none⟩ = some v := fun W hW => HR.out W (HA.out.bel.trans (hW.mono HA.out.bel.size))
      have HS := Lib.hid hS0
      have BN := Lib.hid (Blk.new wr 37 (blkC b (pl i)).toArray)
      have B1 := Lib.hid (show Below wr.heap.size wr ((wr.alloc (.cells (blkC b (pl i)).toArray 37)).drew) from ((Below.refl _ _).alloc (Nat.le_refl _) _).drew)
      have BEL1 := Lib.hid (HA.out.bel.trans (B1.out.mono HA.out.bel.size))
      clear hS0
      refine region_L (fun W => ∀ j v, (blkC b (pl i))[j]? = some v → W.cell? ⟨sb, so + i * 11 + j, none⟩ = some v) [] (by kernel_rfl) ?_
      have hS0 := HS.out _ B1.out
      refine take_P 0 (v := .slice (some ⟨sb, so, none⟩) bs.length cap) rfl (by kernel_rfl) (by kernel_rfl) (by kernel_rfl) (fun _ _ _ h => h) rfl (fun W' => by go_simp) ?_
      refine take_P 1 (v := .int .i64 i) rfl (by kernel_rfl) (by kernel_rfl) (by kernel_rfl) (fun _ _ _ h => h) rfl (fun W' => by go_simp) ?_
      refine take_P 2 (v := .pointer (some ⟨sb, so + i * 11, none⟩)) rfl (by kernel_rfl) (by kernel_rfl) (by kernel_rfl) (fun _ _ _ h => h) rfl (fun W' => by go_simp) ?_
      refine take_P 3 (v := .pointer (some ⟨sb, so + i * 11 + 4, none⟩)) rfl (by kernel_rfl) (by kernel_rfl) (by kernel_rfl) (fun _ _ _ h => h) rfl (fun W' => by go_simp) ?_
      refine take_L 4 (v := .agg #[.int .i64 b.left.op, .int .i64 b.left.n, .slice (pl i).left.a b.left.kids.length (pl i).left.cap]) rfl (by kernel_rfl) (by kernel_rfl) (by kernel_rfl) (by kernel_rfl) (fun _ _ _ h => h) rfl (fun W' hW' => by have e4 := hW' 4 (.int .i64 b.left.op) rfl; have e5 := hW' 5 (.int .i64 b.left.n) rfl; have e6 := hW' 6 (.slice (pl i).left.a b.left.kids.length (pl i).left.cap) rfl; clear hW'; go_simp) hS0 ?_
      refine take_P 6 (v := .slice (some ⟨sb, so, none⟩) bs.length cap) rfl (by kernel_rfl) (by kernel_rfl) (by kernel_rfl) (fun _ _ _ h => h) rfl (fun W' => by go_simp) ?_
      refine take_P 7 (v := .int .i64 i) rfl (by kernel_rfl) (by kernel_rfl) (by kernel_rfl) (fun _ _ _ h => h) rfl (fun W' => by go_simp) ?_
      refine take_P 8 (v := .pointer (some ⟨sb, so + i * 11, none⟩)) rfl (by kernel_rfl) (by kernel_rfl) (by kernel_rfl) (fun _ _ _ h => h) rfl (fun W' => by go_simp) ?_
      refine take_P 9 (v := .pointer (some ⟨sb, so + i * 11 + 7, none⟩)) rfl (by kernel_rfl) (by kernel_rfl) (by kernel_rfl) (fun _ _ _ h => h) rfl (fun W' => by go_simp) ?_
      refine take_L 10 (v := .agg #[.int .i64 b.x.op, .int .i64 b.x.n, .slice (pl i).x.a b.x.kids.length (pl i).x.cap]) rfl (by kernel_rfl) (by kernel_rfl) (by kernel_rfl) (by kernel_rfl) (fun _ _ _ h => h) rfl (fun W' hW' => by have e4 := hW' 7 (.int .i64 b.x.op) rfl; have e5 := hW' 8 (.int .i64 b.x.n) rfl; have e6 := hW' 9 (.slice (pl i).x.a b.x.kids.length (pl i).x.cap) rfl; clear hW'; go_simp) hS0 ?_
      refine one_L 5 (by kernel_rfl) rfl rfl fun K5 hK5 => ?_
      have HK5 := Lib.hid hK5
      clear hK5
      go_simp
      go_at_call 58
      refine (KL.out _ BEL1.out).mono ?_
      rintro e w2 ⟨al, cl, rfl, hin2, b2⟩
      have b2' : Below wr.heap.size wr w2 := B1.out.trans (b2.mono B1.out.size)
      have bn2 := BN.out.drew.below b2 (by have := BN.out.lt; exact this)
      refine HK5.out _ _ (fun _ _ => HS.out _ b2') ?_
      refine take_P 12 (v := .pointer (some ⟨wr.heap.size, 4, none⟩)) rfl (by kernel_rfl) (by kernel_rfl) (by kernel_rfl) (fun _ _ _ h => h) rfl (fun W' => by go_simp) ?_
      refine one_L 11 (by kernel_rfl) rfl rfl fun K11 hK11 => ?_
      have HK11 := Lib.hid hK11
      clear hK11
      go_simp
      go_at_call 58
      have bel2 := HA.out.bel.trans (b2'.mono HA.out.bel.size)
      refine (KX.out _ bel2).mono ?_
      rintro e w3 ⟨ax, cx, rfl, hin3, b3⟩
      have b3' : Below wr.heap.size wr w3 := b2'.trans (b3.mono b2'.size)
      have bn3 := bn2.below b3 bn2.lt
      refine HK11.out _ _ (fun _ _ => HS.out _ b3') ?_
      refine one_L 13 (by kernel_rfl) rfl rfl fun K13 hK13 => ?_
      have HK13 := Lib.hid hK13
      clear hK13
      refine wp_store_mid 35 (.tmp 29) (.tmp 22) rfl wr.heap.size 4 #[.int .i64 b.left.op, .int .i64 b.left.n, .slice al b.left.kids.length cl] rfl rfl (bn3.there (by simp [blkC])) (by kernel_rfl) (by simp [Value.oneCell']) ?_
      have bn4 : Blk (w3.setCells wr.heap.size 4 [.int .i64 b.left.op, .int .i64 b.left.n, .slice al b.left.kids.length cl]) wr.heap.size 37 #[.int .i64 b.kind, .int .i64 b.label, .bool b.skip, .slice (pl i).words b.words.length (pl i).cap, .int .i64 b.left.op, .int .i64 b.left.n, .slice al b.left.kids.length cl, .int .i64 b.x.op, .int .i64 b.x.n, .slice (pl i).x.a b.x.kids.length (pl i).x.cap, .int .i64 b.n] :=
        ((bn3.put 4 _).put 5 _).put 6 _
      have g4 : w3.grownBy (w3.setCells wr.heap.size 4 [.int .i64 b.left.op, .int .i64 b.left.n, .slice al b.left.kids.length cl]) (some wr.heap.size) := grown_setCells (.inl rfl) _ _ _ (grown_refl _ _)
      have b4' : Below wr.heap.size wr (w3.setCells wr.heap.size 4 [.int .i64 b.left.op, .int .i64 b.left.n, .slice al b.left.kids.length cl]) := b3'.trans (below_of_grown g4 b3'.size (fun k e => by injection e with e; omega))
      refine HK13.out _ _ (fun _ _ => HS.out _ b4') ?_
      refine take_P 14 (v := .pointer (some ⟨wr.heap.size, 7, none⟩)) rfl (by kernel_rfl) (by kernel_rfl) (by kernel_rfl) (fun _ _ _ h => h) rfl (fun W' => by go_simp) ?_
      refine one_L 15 (by kernel_rfl) rfl rfl fun K15 hK15 => ?_
      have HK15 := Lib.hid hK15
      clear hK15
      refine wp_store_mid 35 (.tmp 30) (.tmp 28) rfl wr.heap.size 7 #[.int .i64 b.x.op, .int .i64 b.x.n, .slice ax b.x.kids.length cx] rfl rfl (bn4.there (by simp)) (by kernel_rfl) (by simp [Value.oneCell']) ?_
      have bn5 : Blk ((w3.setCells wr.heap.size 4 [.int .i64 b.left.op, .int .i64 b.left.n, .slice al b.left.kids.length cl]).setCells wr.heap.size 7 [.int .i64 b.x.op, .int .i64 b.x.n, .slice ax b.x.kids.length cx]) wr.heap.size 37 (rowC b (.slice (pl i).words b.words.length (pl i).cap) ⟨al, cl⟩ ⟨ax, cx⟩).toArray :=
        ((bn4.put 7 _).put 8 _).put 9 _
      have g5 : w3.grownBy ((w3.setCells wr.heap.size 4 [.int .i64 b.left.op, .int .i64 b.left.n, .slice al b.left.kids.length cl]).setCells wr.heap.size 7 [.int .i64 b.x.op, .int .i64 b.x.n, .slice ax b.x.kids.length cx]) (some wr.heap.size) := grown_setCells (.inl rfl) _ _ _ g4
      have b5' : Below wr.heap.size wr ((w3.setCells wr.heap.size 4 [.int .i64 b.left.op, .int .i64 b.left.n, .slice al b.left.kids.length cl]).setCells wr.heap.size 7 [.int .i64 b.x.op, .int .i64 b.x.n, .slice ax b.x.kids.length cx]) := b3'.trans (below_of_grown g5 b3'.size (fun k e => by injection e with e; omega))
      refine HK15.out _ _ (fun _ _ => HS.out _ b5') ?_
      have hl5 : ExP (fun q => wr.heap.size < q) ((w3.setCells wr.heap.size 4 [.int .i64 b.left.op, .int .i64 b.left.n, .slice al b.left.kids.length cl]).setCells wr.heap.size 7 [.int .i64 b.x.op, .int .i64 b.x.n, .slice ax b.x.kids.length cx]) b.left al cl := by
        have hz : wr.heap.size + 1 ≤ ((wr.alloc (.cells (blkC b (pl i)).toArray 37))).drew.heap.size := by simp
        have h1 : ExP (fun q => wr.heap.size < q) w2 b.left al cl := hin2.imp fun q hq _ => by omega
        exact (h1.under b3).grownP g5 fun k e hk => by injection e with e; omega
      have hx5 : ExP (fun q => wr.heap.size < q) ((w3.setCells wr.heap.size 4 [.int .i64 b.left.op, .int .i64 b.left.n, .slice al b.left.kids.length cl]).setCells wr.heap.size 7 [.int .i64 b.x.op, .int .i64 b.x.n, .slice ax b.x.kids.length cx]) b.x ax cx := by
        have h1 : ExP (fun q => wr.heap.size < q) w3 b.x ax cx := hin3.imp fun q hq _ => by have := bn2.lt; omega
        exact h1.grownP g5 fun k e hk => by injection e with e; omega
      refine done_L (by kernel_rfl) ?_ _
      refine on_told (fun W => Blk W wr.heap.size 37 (rowC b (.slice (pl i).words b.words.length (pl i).cap) ⟨al, cl⟩ ⟨ax, cx⟩).toArray ∧ Below wr.heap.size wr W ∧ ExP (fun q => wr.heap.size < q) W b.left al cl ∧ ExP (fun q => wr.heap.size < q) W b.x ax cx) ⟨bn5, b5', hl5, hx5⟩ fun W5 h5 => ?_
      clear bn5 b5' hl5 hx5 g5 b4' g4 bn4 b3' bn3 b3 bel2 bn2 b2' b2 hS0 HK5 HK11 HK13 HK15 hin2 hin3 SN r0 KL KX
      obtain ⟨h5b, h5w, h5l, h5x⟩ := h5
      have c3 := h5b.cell 3
      have z3 := h5b.frozen 3
      have hin0 : RInnerAt wr b ⟨al, cl⟩ ⟨ax, cx⟩ 0 (.slice none 0 0) (pl i).k (W5.setCell ⟨wr.heap.size, 3, none⟩ (.slice none 0 0)) := by
        have gr : W5.grownBy (W5.setCell ⟨wr.heap.size, 3, none⟩ (.slice none 0 0)) (some wr.heap.size) := grown_setCell (p := ⟨wr.heap.size, 3, none⟩) (grown_refl _ _) (.inl rfl) _
        refine ⟨h5b.put 3 _, World.ownsRow_nil _ _ _ _, h5w.setCell (Nat.le_refl _) _, ?_, ?_, fun j x _ h => by omega⟩
        · exact (h5l.grownP gr fun k e hk => by injection e with e; omega).imp fun q hq _ => ⟨hq, by simp [Value.ownBlock]⟩
        · exact (h5x.grownP gr fun k e hk => by injection e with e; omega).imp fun q hq _ => ⟨hq, by simp [Value.ownBlock]⟩
      have HIN := Lib.hid hin0
      clear hin0 h5b h5w h5l h5x
      go_simp
      go_wp2_with fail
      go_loopw [6] (fun s wx => ∃ m : Nat, m ≤ b.words.length ∧ s = .int .i64 m ∧ ∃ vw kk, RInnerAt wr b ⟨al, cl⟩ ⟨ax, cx⟩ m vw kk wx) (fun s _ => b.words.length - (intOf s).toNat)
      case atStart => exact ⟨0, by omega, rfl, _, _, HIN.out⟩
      case round =>
        rename World => wx
        obtain ⟨m, hm, rfl, vw, kk, hwt⟩ := hrel
        have HT := Lib.hid hwt
        have m0 : (0 : Int) ≤ (m : Int) := by omega
        have hwl := HSW.out
        have belx := HA.out.bel.trans (hwt.bel.mono HA.out.bel.size)
        have BELX := Lib.hid belx
        have q3 := HR.out wx belx 3 (.slice (pl i).words b.words.length (pl i).cap) rfl
        clear belx
        by_cases hmt : m < b.words.length
        · have d2 : decide (m < b.words.length) = true := by simpa using hmt
          have m1 : (m : Int) < (b.words.length : Int) := by omega
          have hx : b.words[m]? = some b.words[m] := List.getElem?_eq_getElem hmt
          generalize b.words[m] = x at hx
          obtain ⟨wb, wo, ew, hwb, hwc⟩ := HBW.out.num m x hx
          have hSW : ∀ W, Below w.heap.size w W → ∀ j v, (wordC x ((pl i).k m))[j]? = some v → W.cell? ⟨wb, wo + m * 4 + j, none⟩ = some v := fun W hW j v hv => (hW.cell (p := ⟨wb, wo + m * 4 + j, none⟩) hwb).trans (hwc j v hv)
          rw [ew] at q3
          have EW := Lib.hid ew
          have HX := Lib.hid hx
          have KR := Lib.hid (fun W (hb : Below w.heap.size w W) => KE.out m x hx W hb)
          have f3 := hwt.blk.cell 3
          have hS2 : ∀ W, Below w.heap.size w W → Blk W wr.heap.size 37 (rowC b vw ⟨al, cl⟩ ⟨ax, cx⟩).toArray → (W.cell? ⟨wr.heap.size, 3, none⟩ = some vw ∧ W.cell? ⟨sb, so + i * 11 + 3, none⟩ = some (.slice (some ⟨wb, wo, none⟩) b.words.length (pl i).cap) ∧ W.cell? ⟨wb, wo + m * 4, none⟩ = some (.int .i64 x.letter) ∧ W.cell? ⟨wb, wo + m * 4 + 1, none⟩ = some (.int .i64 x.x.op) ∧ W.cell? ⟨wb, wo + m * 4 + 2, none⟩ = some (.int .i64 x.x.n) ∧ W.cell? ⟨wb, wo + m * 4 + 3, none⟩ = some (.slice ((pl i).k m).a x.x.kids.length ((pl i).k m).cap)) := fun W hW hbk => by
            refine ⟨hbk.cell' 3 rfl, ?_, hSW W hW 0 _ rfl, hSW W hW 1 _ rfl, hSW W hW 2 _ rfl, hSW W hW 3 _ rfl⟩
            rw [HR.out W hW 3 (.slice (pl i).words b.words.length (pl i).cap) rfl, EW.out]
          have HS2 := Lib.hid hS2
          clear hwt hx hwc hS2 hSW ew hwb
          go_wp2_with fail
          refine region_L (fun W => W.cell? ⟨wr.heap.size, 3, none⟩ = some vw ∧ W.cell? ⟨sb, so + i * 11 + 3, none⟩ = some (.slice (some ⟨wb, wo, none⟩) b.words.length (pl i).cap) ∧ W.cell? ⟨wb, wo + m * 4, none⟩ = some (.int .i64 x.letter) ∧ W.cell? ⟨wb, wo + m * 4 + 1, none⟩ = some (.int .i64 x.x.op) ∧ W.cell? ⟨wb, wo + m * 4 + 2, none⟩ = some (.int .i64 x.x.n) ∧ W.cell? ⟨wb, wo + m * 4 + 3, none⟩ = some (.slice ((pl i).k m).a x.x.kids.length ((pl i).k m).cap)) [25] (by kernel_rfl) ?_
          have hS0 := HS2.out wx.drew BELX.out.drew HT.out.blk.drew
          refine take_P 0 (v := .pointer (some ⟨wr.heap.size, 3, none⟩)) rfl (by kernel_rfl) (by kernel_rfl) (by kernel_rfl) (fun _ _ _ h => h) rfl (fun W' => by go_simp) ?_
          refine take_L 1 (v := vw) rfl (by kernel_rfl) (by kernel_rfl) (by kernel_rfl) (by kernel_rfl) (fun _ _ _ h => h) rfl (fun W' hW' => by obtain ⟨e0, e1, e2, e3, e4, e5⟩ := hW'; go_simp) hS0 ?_
          refine take_P 2 (v := .slice (some ⟨sb, so, none⟩) bs.length cap) rfl (by kernel_rfl) (by kernel_rfl) (by kernel_rfl) (fun _ _ _ h => h) rfl (fun W' => by go_simp) ?_
          refine take_P 3 (v := .int .i64 i) rfl (by kernel_rfl) (by kernel_rfl) (by kernel_rfl) (fun _ _ _ h => h) rfl (fun W' => by go_simp) ?_
          refine take_P 4 (v := .pointer (some ⟨sb, so + i * 11, none⟩)) rfl (by kernel_rfl) (by kernel_rfl) (by kernel_rfl) (fun _ _ _ h => h) rfl (fun W' => by go_simp) ?_
          refine take_P 5 (v := .pointer (some ⟨sb, so + i * 11 + 3, none⟩)) rfl (by kernel_rfl) (by kernel_rfl) (by kernel_rfl) (fun _ _ _ h => h) rfl (fun W' => by go_simp) ?_
          refine take_L 6 (v := .slice (some ⟨wb, wo, none⟩) b.words.length (pl i).cap) rfl (by kernel_rfl) (by kernel_rfl) (by kernel_rfl) (by kernel_rfl) (fun _ _ _ h => h) rfl (fun W' hW' => by obtain ⟨e0, e1, e2, e3, e4, e5⟩ := hW'; go_simp) hS0 ?_
          refine take_P 7 (v := .int .i64 m) rfl (by kernel_rfl) (by kernel_rfl) (by kernel_rfl) (fun _ _ _ h => h) rfl (fun W' => by go_simp) ?_
          refine take_P 8 (v := .pointer (some ⟨wb, wo + m * 4, none⟩)) rfl (by kernel_rfl) (by kernel_rfl) (by kernel_rfl) (fun _ _ _ h => h) rfl (fun W' => by go_simp) ?_
          refine take_P 9 (v := .pointer (some ⟨wb, wo + m * 4, none⟩)) rfl (by kernel_rfl) (by kernel_rfl) (by kernel_rfl) (fun _ _ _ h => h) rfl (fun W' => by go_simp) ?_
          refine take_L 10 (v := .int .i64 x.letter) rfl (by kernel_rfl) (by kernel_rfl) (by kernel_rfl) (by kernel_rfl) (fun _ _ _ h => h) rfl (fun W' hW' => by obtain ⟨e0, e1, e2, e3, e4, e5⟩ := hW'; go_simp) hS0 ?_
          refine take_P 11 (v := .slice (some ⟨sb, so, none⟩) bs.length cap) rfl (by kernel_rfl) (by kernel_rfl) (by kernel_rfl) (fun _ _ _ h => h) rfl (fun W' => by go_simp) ?_
          refine take_P 12 (v := .int .i64 i) rfl (by kernel_rfl) (by kernel_rfl) (by kernel_rfl) (fun _ _ _ h => h) rfl (fun W' => by go_simp) ?_
          refine take_P 13 (v := .pointer (some ⟨sb, so + i * 11, none⟩)) rfl (by kernel_rfl) (by kernel_rfl) (by kernel_rfl) (fun _ _ _ h => h) rfl (fun W' => by go_simp) ?_
          refine take_P 14 (v := .pointer (some ⟨sb, so + i * 11 + 3, none⟩)) rfl (by kernel_rfl) (by kernel_rfl) (by kernel_rfl) (fun _ _ _ h => h) rfl (fun W' => by go_simp) ?_
          refine take_L 15 (v := .slice (some ⟨wb, wo, none⟩) b.words.length (pl i).cap) rfl (by kernel_rfl) (by kernel_rfl) (by kernel_rfl) (by kernel_rfl) (fun _ _ _ h => h) rfl (fun W' hW' => by obtain ⟨e0, e1, e2, e3, e4, e5⟩ := hW'; go_simp) hS0 ?_
          refine take_P 16 (v := .int .i64 m) rfl (by kernel_rfl) (by kernel_rfl) (by kernel_rfl) (fun _ _ _ h => h) rfl (fun W' => by go_simp) ?_
          refine take_P 17 (v := .pointer (some ⟨wb, wo + m * 4, none⟩)) rfl (by kernel_rfl) (by kernel_rfl) (by kernel_rfl) (fun _ _ _ h => h) rfl (fun W' => by go_simp) ?_
          refine take_P 18 (v := .pointer (some ⟨wb, wo + m * 4 + 1, none⟩)) rfl (by kernel_rfl) (by kernel_rfl) (by kernel_rfl) (fun _ _ _ h => h) rfl (fun W' => by go_simp) ?_
          refine take_L 19 (v := .agg #[.int .i64 x.x.op, .int .i64 x.x.n, .slice ((pl i).k m).a x.x.kids.length ((pl i).k m).cap]) rfl (by kernel_rfl) (by kernel_rfl) (by kernel_rfl) (by kernel_rfl) (fun _ _ _ h => h) rfl (fun W' hW' => by obtain ⟨e0, e1, e2, e3, e4, e5⟩ := hW'; go_simp) hS0 ?_
          refine one_L 20 (by kernel_rfl) rfl rfl fun K20 hK20 => ?_
          have HK20 := Lib.hid hK20
          clear hK20
          go_simp
          go_at_call 58
          refine (KR.out _ BELX.out.drew).mono ?_
          rintro e w6 ⟨a6, c6, rfl, hin6, b6⟩
          have b6' : Below wx.heap.size wx w6 := (Below.refl _ _).drew.trans b6
          have bel6 : Below w.heap.size w w6 := BELX.out.trans (b6'.mono BELX.out.size)
          have blk6 := HT.out.blk.below b6' HT.out.blk.lt
          refine HK20.out _ _ (fun _ _ => HS2.out _ bel6 blk6) ?_
          refine take_P 21 (v := .agg #[.int .i64 x.letter, .int .i64 x.x.op, .int .i64 x.x.n, .slice a6 x.x.kids.length c6]) rfl (by kernel_rfl) (by kernel_rfl) (by kernel_rfl) (fun _ _ _ h => h) rfl (fun W' => by go_simp) ?_
          refine one_L 22 (by kernel_rfl) rfl rfl fun K22 hK22 => ?_
          have HK22 := Lib.hid hK22
          clear hK22
          refine wp_word1 (.tmp 63) (.int .i64 x.letter) (.int .i64 x.x.op) (.int .i64 x.x.n) (.slice a6 x.x.kids.length c6) rfl (by with_unfolding_all rfl) ?_
          have b7 : Below w6.heap.size w6 (w6.alloc (.cells #[.int .i64 x.letter, .int .i64 x.x.op, .int .i64 x.x.n, .slice a6 x.x.kids.length c6] 48)) := (Below.refl _ _).alloc (Nat.le_refl _) _
          have b7' := b6'.trans (b7.mono b6'.size)
          have bel7 := bel6.trans (b7.mono bel6.size)
          have blk7 := blk6.alloc (.cells #[.int .i64 x.letter, .int .i64 x.x.op, .int .i64 x.x.n, .slice a6 x.x.kids.length c6] 48)
          refine HK22.out _ _ (fun _ _ => HS2.out _ bel7 blk7) ?_
          refine one_L 23 (by kernel_rfl) rfl rfl fun K23 hK23 => ?_
          have HK23 := Lib.hid hK23
          clear hK23
          refine wp_push (.tmp 43) (.tmp 64) 32 rfl (wr.heap.size + 1) 48 (Value.agg #[.int .i64 0, .int .i64 0, .int .i64 0, .slice none 0 0]) 4 48 Try.underlying32 infoWord (by kernel_rfl) (by decide) (by decide) vw m (wordsC b.words kk) (by with_unfolding_all rfl)
            (own_grown HT.out.own (grown_of_below b7') (by intro k e; cases e)) w6.heap.size (wordC x ⟨a6, c6⟩) (by with_unfolding_all rfl) (Blk.new w6 48 _) rfl (by intro u hu; simp [wordC] at hu; rcases hu with rfl | rfl | rfl | rfl <;> rfl) (by omega) (by have := HT.out.blk.lt; have := b6'.size; simp; omega) fun g c w8 hp => ?_
          have hgp : some wr.heap.size ≠ vw.ownBlock := fun e => by have := HT.out.own.lt _ e.symm; omega
          have bel8 : Below w.heap.size w w8 := bel7.trans (below_of_grown hp.grown (by have := bel7.size; omega) (fun k e => by have := HT.out.own.lt k e; have := HA.out.bel.size; omega))
          have blk8 := blk7.grown hp.grown hgp
          refine HK23.out _ _ (fun _ _ => HS2.out _ bel8 blk8) ?_
          have HST := Lib.hid (HT.out.step HX.out b7' ((hin6.under b7).mono (Nat.le_refl _)) hp)
          have t8 := blk8.cell 3
          have z8 := blk8.frozen 3
          refine take_P 24 (v := .pointer (some ⟨wr.heap.size, 3, none⟩)) rfl (by kernel_rfl) (by kernel_rfl) (by kernel_rfl) (fun _ _ _ h => h) rfl (fun W' => by go_simp) ?_
          refine one_L 25 (by kernel_rfl) rfl rfl fun K25 hK25 => ?_
          have HK25 := Lib.hid hK25
          clear hK25
          go_simp
          refine HK25.out _ _ (fun h => absurd h (by decide)) ?_
          refine done_L (by kernel_rfl) ?_ _
          clear t8 z8 blk8 bel8 hp hgp blk7 bel7 b7 b7' blk6 bel6 b6 b6' hin6 hS0 HS2 HK20 HK22 HK23 HK25 KR q3 f3
          go_simp
          go_wp2_with fail
          go_roundw
          case rel => exact ⟨m + 1, by omega, by go_num, _, _, HST.out⟩
          case measure => simp [intOf]; omega
        · obtain rfl : m = b.words.length := by omega
          have d2 : decide (b.words.length < b.words.length) = false := by simp
          obtain ⟨aw, cw, rfl, hbp⟩ := hwt.words
          have HBP := Lib.hid hbp
          clear hwt hbp
          have hblk : wx.heap[wr.heap.size]? = some (.cells #[.int .i64 b.kind, .int .i64 b.label, .bool b.skip, .slice aw b.words.length cw, .int .i64 b.left.op, .int .i64 b.left.n, .slice al b.left.kids.length cl, .int .i64 b.x.op, .int .i64 b.x.n, .slice ax b.x.kids.length cx, .int .i64 b.n] 37 (0, 0)) := HT.out.blk
          have b7 : Below wx.heap.size wx (wx.alloc (.cells #[.int .i64 b.kind, .int .i64 b.label, .bool b.skip, .slice aw b.words.length cw, .int .i64 b.left.op, .int .i64 b.left.n, .slice al b.left.kids.length cl, .int .i64 b.x.op, .int .i64 b.x.n, .slice ax b.x.kids.length cx, .int .i64 b.n] 37)) := (Below.refl _ _).alloc (Nat.le_refl _) _
          have B7 := Lib.hid (HT.out.bel.trans (b7.mono HT.out.bel.size))
          have OWN := Lib.hid (own_grown (HA.out.own) (grown_of_below B7.out) (by intro k e; cases e))
          clear b7
          go_wp2_with (first
            | ((with_reducible refine go_load_row 37 (.tmp 5) wr.heap.size 37 #[.int .i64 b.kind, .int .i64 b.label, .bool b.skip, .slice aw b.words.length cw, .int .i64 b.left.op, .int .i64 b.left.n, .slice al b.left.kids.length cl, .int .i64 b.x.op, .int .i64 b.x.n, .slice ax b.x.kids.length cx, .int .i64 b.n] _ rfl hblk Try.underlying37 rfl (by kernel_rfl) ?_))
            | ((with_reducible refine wpList_block1 rfl (.tmp 68) (.int .i64 b.kind) (.int .i64 b.label) (.bool b.skip) (.slice aw b.words.length cw) (.int .i64 b.left.op) (.int .i64 b.left.n) (.slice al b.left.kids.length cl) (.int .i64 b.x.op) (.int .i64 b.x.n) (.slice ax b.x.kids.length cx) (.int .i64 b.n) rfl ?hv ?_); (first | rfl | skip))
            | (at_builtin; refine wpList_push rfl (.tmp 67) (.tmp 69) 22 rfl w.heap.size 37 (Value.agg #[.int .i64 0, .int .i64 0, .bool false, .slice none 0 0, .int .i64 0, .int .i64 0, .slice none 0 0, .int .i64 0, .int .i64 0, .slice none 0 0, .int .i64 0]) 11 136 Try.underlying22 infoBlock (by kernel_rfl) (by decide) (by decide) u3 i (blksC bs pl') rfl
                OWN.out wx.heap.size (blkC b ⟨aw, cw, kk, ⟨al, cl⟩, ⟨ax, cx⟩⟩) rfl ?c1 rfl blkC_one (by omega) ?c2 ?c3))
          case c1 => exact Blk.new wx 37 _
          case c2 => have := HA.out.bel.size; have := HT.out.bel.size; simp; omega
          case c3 =>
            intro g c w8 hp
            have HST := Lib.hid (HA.out.step HB.out B7.out (HBP.out.keep fun q _ hl => (((Below.refl wx.heap.size wx).alloc (Nat.le_refl _) _).block q hl)) hp)
            clear hp hblk q3
            go_wp2_with fail
            go_roundw
            case rel => exact ⟨i + 1, by omega, by go_num, _, HST.out⟩
            case measure => simp [intOf]; omega
    · obtain rfl : i = bs.length := by omega
      have d1 : decide (bs.length < bs.length) = false := by simp
      clear hat
      obtain ⟨a', c', rfl, hrow, hcap⟩ := RowAt.of_own HA.out.own (fun i hi => blksC_len hi)
      have HROW := Lib.hid hrow
      have HCAP := Lib.hid hcap
      clear hrow hcap
      go_wp2_with fail
      go_ret
      exact ⟨a', c', pl', rfl, ⟨HROW.out, fun i b hb => (HA.out.new i b hb (List.getElem?_eq_some_iff.1 hb).1).imp fun q hq _ => hq.1, HCAP.out⟩, HA.out.bel⟩
end Go.Proofs.Yteiogjgmedikhaa
