/-
  library's add at the beginning of a program.
-/
import Derived.Test.YteiogjgmedikhaaAddL09
import Derived.IntWalk
namespace Go.Proofs.Yteiogjgmedikhaa
open Go Go.RowKit
set_option linter.unusedVariables false



set_option maxRecDepth 100000 in
set_option maxHeartbeats 4000000 in
theorem add_prog_open (bs : List BlkL) (a : Option Addr) (cap : Nat) (pl : Nat → Place) (base S i : Nat) (b : BlkL) (s : StL) (w : World) (hsrc : ∀ W, Below base w W → base ≤ W.heap.size → BlksAt W bs a cap pl) (hsz : base ≤ w.heap.size)
    (hb : bs[i]? = some b) (hvs : ∀ (j : Nat) (b : BlkL), bs[j]? = some b → validB b = true) (hok : StOK bs i s) (hlen : bs.length ≤ 2000) (hbld : BldSome base S s.progs s.mate s.op (numsOf s.progs) (labelsOf bs (lastFirst s.progs) i) w)
    (hk : b.kind = 6) (m t : Nat) (hm : s.op.length = m + 1) (ht : topOf s.op = t) :
    Calls Try.prog 39 #[.pointer (some ⟨S, 0, none⟩), .slice a bs.length cap, .int .i64 i] w (AddPost bs b i s base S w) := by
  have k6 : (b.kind == 6) = true := by simpa using hk
  have hv := hvs i b hb
  have HERR := Lib.hid (show stepB bs b i s = .err t 11 by
    unfold stepB
    rw [if_pos ⟨hk, by intro e; rw [e] at hm; cases hm⟩, ht])
  clear hk hvs
  have hi : i < bs.length := (List.getElem?_eq_some_iff.1 hb).1
  have h0 := hsrc w (Below.refl _ _) hsz
  obtain ⟨hl, sb, so, rfl, hsb, hcc⟩ := h0.tab i hi
  have i0 : (0 : Int) ≤ (i : Int) := by omega
  have i1 : (i : Int) < (bs.length : Int) := by omega
  obtain ⟨vp, vm, vo, bn, bl, hbld⟩ := hbld
  have HOK := Lib.hid hok
  have HSRC := Lib.hid hsrc
  have HB := Lib.hid hb
  have HV := Lib.hid hv
  have hop := hok.few
  have hmt := hok.mate
  obtain ⟨lo, co, rfl⟩ := own_form hbld.op
  have hml : m < i := by have := hok.few; omega
  have htm : s.op[m]? = some t := by
    have := topOf_at (l := s.op) (by intro e; rw [e] at hm; cases hm)
    rw [hm, ht] at this
    simpa using this
  rw [hm] at hbld
  obtain ⟨go, rfl, hgo1, hgo2, _⟩ := op_at hbld htm
  have HTM := Lib.hid htm
  clear hm ht htm hgo1 hgo2
  have HBLD := Lib.hid hbld
  have HMT := Lib.hid hmt
  have HSZ := Lib.hid hsz
  have hrow0 : ∀ j v, (blkC b (pl i))[j]? = some v → w.cell? ⟨sb, so + i * 11 + j, none⟩ = some v := fun j v hv => by
    rw [hcc j (by have := (List.getElem?_eq_some_iff.1 hv).1; simpa [blkC] using this), blksC_at HB.out]; exact hv
  have HR0 := Lib.hid hrow0
  clear hbld hok hsrc hb hv h0 hl hcc hmt hsz hrow0 hsb
  go_enter Try.func39, Try.ntmps39
  go_wp2_with fail
  refine region_L (fun W => (∀ j v, (blkC b (pl i))[j]? = some v → W.cell? ⟨sb, so + i * 11 + j, none⟩ = some v) ∧ W.cell? ⟨S, 2, none⟩ = some (.slice (some ⟨go, 0, none⟩) (m + 1) co)) [] (by kernel_rfl) ?_
  have hS0 : (∀ j v, (blkC b (pl i))[j]? = some v → w.drew.cell? ⟨sb, so + i * 11 + j, none⟩ = some v) ∧ w.drew.cell? ⟨S, 2, none⟩ = some (.slice (some ⟨go, 0, none⟩) (m + 1) co) := ⟨HR0.out, HBLD.out.blk.cell' 2 rfl⟩
  refine take_P 0 (v := .slice (some ⟨sb, so, none⟩) bs.length cap) rfl (by kernel_rfl) (by kernel_rfl) (by kernel_rfl) (fun _ _ _ h => h) rfl (fun W' => by go_simp) ?_
  refine take_P 1 (v := .int .i64 i) rfl (by kernel_rfl) (by kernel_rfl) (by kernel_rfl) (fun _ _ _ h => h) rfl (fun W' => by go_simp) ?_
  refine take_P 2 (v := .pointer (some ⟨sb, so + i * 11, none⟩)) rfl (by kernel_rfl) (by kernel_rfl) (by kernel_rfl) (fun _ _ _ h => h) rfl (fun W' => by go_simp) ?_
  refine take_L 3 (v := .agg (blkC b (pl i)).toArray) rfl (by kernel_rfl) (by kernel_rfl) (by kernel_rfl) (by kernel_rfl) (fun _ _ _ h => h) rfl (fun W' hW' => by exact exec_load 37 (.tmp 15) rfl ⟨sb, so + i * 11, none⟩ _ (by go_simp) (run_loadAt_mid W' sb (so + i * 11) 37 (blkC b (pl i)) _ hW'.1 Try.underlying37 rfl (by kernel_rfl))) hS0 ?_
  refine take_P 4 (v := .pointer (some ⟨S, 0, none⟩)) rfl (by kernel_rfl) (by kernel_rfl) (by kernel_rfl) (fun _ _ _ h => h) rfl (fun W' => by go_simp) ?_
  refine take_P 5 (v := .pointer (some ⟨S, 0, none⟩)) rfl (by kernel_rfl) (by kernel_rfl) (by kernel_rfl) (fun _ _ _ h => h) rfl (fun W' => by go_simp) ?_
  refine take_P 6 (v := .pointer (some ⟨S, 2, none⟩)) rfl (by kernel_rfl) (by kernel_rfl) (by kernel_rfl) (fun _ _ _ h => h) rfl (fun W' => by go_simp) ?_
  refine take_L 7 (v := .slice (some ⟨go, 0, none⟩) (m + 1) co) rfl (by kernel_rfl) (by kernel_rfl) (by kernel_rfl) (by kernel_rfl) (fun _ _ _ h => h) rfl (fun W' hW' => by have e2 := hW'.2; clear hW'; go_simp) hS0 ?_
  refine take_P 8 (v := .int .i64 (m + 1)) rfl (by kernel_rfl) (by kernel_rfl) (by kernel_rfl) (fun _ _ _ h => h) rfl (fun W' => by go_simp) ?_
  have hkeep : ∀ o : Obj, (∀ j v, (blkC b (pl i))[j]? = some v → (w.drew.alloc o).cell? ⟨sb, so + i * 11 + j, none⟩ = some v) ∧ (w.drew.alloc o).cell? ⟨S, 2, none⟩ = some (.slice (some ⟨go, 0, none⟩) (m + 1) co) := fun o => by
    have hb1 : Below w.heap.size w (w.drew.alloc o) := ((Below.refl _ _).drew).alloc (Nat.le_refl _) o
    exact ⟨fun j v hv => (hb1.cell (p := ⟨sb, so + i * 11 + j, none⟩) (block_lt_of_cell (HR0.out j v hv))).trans (HR0.out j v hv), (HBLD.out.blk.below hb1 HBLD.out.blk.lt).cell' 2 rfl⟩
  refine one_L 9 (by kernel_rfl) rfl rfl fun K9 hK9 => ?_
  have HK9 := Lib.hid hK9
  clear hK9
  go_simp
  refine HK9.out _ _ (fun _ _ => hkeep _) ?_
  refine one_L 10 (by kernel_rfl) rfl rfl fun K10 hK10 => ?_
  have HK10 := Lib.hid hK10
  clear hK10
  refine wp_store_new (w := w.drew) 37 (.tmp 8) (.tmp 16) rfl #[.int .i64 0, .int .i64 0, .bool false, .slice none 0 0, .int .i64 0, .int .i64 0, .slice none 0 0, .int .i64 0, .int .i64 0, .slice none 0 0, .int .i64 0] (blkC b (pl i)).toArray rfl rfl (by kernel_rfl) rfl (all_oneCell_toArray blkC_one) ?_
  refine HK10.out _ _ (fun _ _ => hkeep _) ?_
  refine one_L 11 (by kernel_rfl) rfl rfl fun K11 hK11 => ?_
  have HK11 := Lib.hid hK11
  clear hK11
  go_simp
  refine HK11.out _ _ (fun _ _ => hkeep _) ?_
  refine done_L (by kernel_rfl) ?_ _
  have hst : AddSt w base S w.heap.size b (pl i) s.progs 0 s.mate s.op (numsOf s.progs) (labelsOf bs (lastFirst s.progs) i) vp vm (.slice (some ⟨go, 0, none⟩) (m + 1) co) bn bl (w.drew.alloc (.cells (blkC b (pl i)).toArray 37)) := by
    have hb1 : Below w.heap.size w (w.drew.alloc (.cells (blkC b (pl i)).toArray 37)) := ((Below.refl _ _).drew).alloc (Nat.le_refl _) _
    refine ⟨HBLD.out.under hb1, Blk.new w.drew 37 _, hb1.mono HSZ.out, by have := HSZ.out; simp; omega⟩
  refine on_told (fun W => AddSt w base S w.heap.size b (pl i) s.progs 0 s.mate s.op (numsOf s.progs) (labelsOf bs (lastFirst s.progs) i) vp vm (.slice (some ⟨go, 0, none⟩) (m + 1) co) bn bl W) hst fun W1 h1 => ?_
  clear hst hkeep hS0 HK9 HK10 HK11
  have H1 := Lib.hid h1
  have f1 := h1.bld.blk.cell 1
  have HM1 := Lib.hid (h1.bld.mate.alloc (.cells #[.int .i64 (-1)] 3))
  have HB1 := Lib.hid (Blk.new W1 3 #[.int .i64 (-1)])
  have HL1 := Lib.hid (show base ≤ (W1.alloc (.cells #[.int .i64 (-1)] 3)).heap.size by have := h1.size; simp; omega)
  clear h1
  go_simp
  go_wp2_with (at_builtin; refine wpList_push rfl (.tmp 26) (.tmp 27) 23 rfl base 3 (.int .i64 0) 1 8 Try.underlying23 infoInt rfl (by decide) (by decide) vm s.mate.length (intC s.mate) rfl HM1.out W1.heap.size [.int .i64 (-1)] rfl HB1.out rfl (by simp [Value.oneCell']) ?c1 HL1.out ?c2)
  case c1 => have := HMT.out; omega
  case c2 =>
    intro g c w2 hp
    have h2 := H1.out
    have hb1 : Below W1.heap.size W1 (W1.alloc (.cells #[.int .i64 (-1)] 3)) := (Below.refl _ _).alloc (Nat.le_refl _) _
    have hbl2 := (h2.bld.under hb1).pushMate hp
    have hS2 : Blk w2 S 69 _ := (h2.bld.blk.alloc _).grown hp.grown (own_ne h2.bld.mate h2.bld.blk (by decide))
    have hN2 : Blk w2 w.heap.size 37 (blkC b (pl i)).toArray := (h2.blk.alloc _).grown hp.grown (own_ne h2.bld.mate h2.blk (by decide))
    have hsz2 := h2.size
    have hsl2 := hp.grown.size
    have hst : AddSt w base S w.heap.size b (pl i) s.progs 0 (s.mate ++ [-1]) s.op (numsOf s.progs) (labelsOf bs (lastFirst s.progs) i) vp (.slice (some ⟨g, 0, none⟩) (s.mate.length + 1) c) (.slice (some ⟨go, 0, none⟩) (m + 1) co) bn bl (w2.setCell ⟨S, 1, none⟩ (.slice (some ⟨g, 0, none⟩) (s.mate.length + 1) c)) := by
      refine ⟨hbl2, hN2.far (p := ⟨S, 1, none⟩) (fun e => ?_) _, ?_, by simp at hsl2 ⊢; omega⟩
      · have e' : w.heap.size = S := e
        rw [e'] at hN2
        unfold Blk at hN2 hS2
        rw [hS2] at hN2
        injection hN2 with hN2
        injection hN2 with _ hN2
        exact absurd hN2 (by decide)
      · exact ((h2.bel.alloc hsz2 _).trans (below_of_grown hp.grown (by simp; omega) (fun k e => (h2.bld.mate.lt k e).1))).setCell h2.bld.far.1 _
    have HST := Lib.hid hst
    have t1 := hS2.cell 1
    have z1 := hS2.frozen 1
    clear hst hp hS2 hN2 hbl2 h2 hb1 hsl2
    go_upto_region 3 with (fail)
    refine on_told (fun W => AddSt w base S w.heap.size b (pl i) s.progs 0 (s.mate ++ [-1]) s.op (numsOf s.progs) (labelsOf bs (lastFirst s.progs) i) vp (.slice (some ⟨g, 0, none⟩) (s.mate.length + 1) c) (.slice (some ⟨go, 0, none⟩) (m + 1) co) bn bl W) HST.out fun W2 h2 => ?_
    clear HST t1 z1 HM1 HB1 HL1 H1 f1
    have H2 := Lib.hid h2
    have n0 := h2.kind
    have n1 := h2.label
    have n6 := h2.n
    clear h2
    have f2 := H2.out.bld.blk.cell 2
    have c2 : W2.cell? ⟨go, m, none⟩ = some (.int .i64 t) := by
      obtain ⟨g', e, _, _, hc⟩ := op_at H2.out.bld HTM.out
      injection e with e
      injection e with e
      subst e
      exact hc
    go_wp2_with fail
    go_ret2
    exact AddPost.err HERR.out H2.out.bel rfl
set_option maxRecDepth 100000 in
set_option maxHeartbeats 4000000 in
theorem add_prog_dup (bs : List BlkL) (a : Option Addr) (cap : Nat) (pl : Nat → Place) (base S i : Nat) (b : BlkL) (s : StL) (w : World) (hsrc : ∀ W, Below base w W → base ≤ W.heap.size → BlksAt W bs a cap pl) (hsz : base ≤ w.heap.size)
    (hb : bs[i]? = some b) (hvs : ∀ (j : Nat) (b : BlkL), bs[j]? = some b → validB b = true) (hok : StOK bs i s) (hlen : bs.length ≤ 2000) (hbld : BldSome base S s.progs s.mate s.op (numsOf s.progs) (labelsOf bs (lastFirst s.progs) i) w)
    (hk : b.kind = 6) (hm : s.op.length = 0) (hd : dupN b s = true) :
    Calls Try.prog 39 #[.pointer (some ⟨S, 0, none⟩), .slice a bs.length cap, .int .i64 i] w (AddPost bs b i s base S w) := by
  have k6 : (b.kind == 6) = true := by simpa using hk
  have hv := hvs i b hb
  have hnn := valid_prog hv hk
  have hdn := dupN_nums hok (b := b) hnn.1
  have NWF := Lib.hid (wf_small (x := b.n) (by omega) (by omega))
  have NKWF := Lib.hid (nums_wf hok)
  have NMEM := Lib.hid (show decide (b.n ∈ numsOf s.progs) = true by rw [← hdn]; exact hd)
  have HERR := Lib.hid (show stepB bs b i s = .err i 7 by
    unfold stepB
    rw [if_neg (by rintro ⟨_, h⟩; exact h (List.length_eq_zero_iff.1 hm)), if_pos ⟨hk, hd⟩])
  clear hk hvs hnn hdn hd
  have hi : i < bs.length := (List.getElem?_eq_some_iff.1 hb).1
  have h0 := hsrc w (Below.refl _ _) hsz
  obtain ⟨hl, sb, so, rfl, hsb, hcc⟩ := h0.tab i hi
  have i0 : (0 : Int) ≤ (i : Int) := by omega
  have i1 : (i : Int) < (bs.length : Int) := by omega
  obtain ⟨vp, vm, vo, bn, bl, hbld⟩ := hbld
  have HOK := Lib.hid hok
  have HSRC := Lib.hid hsrc
  have HB := Lib.hid hb
  have HV := Lib.hid hv
  have hop := hok.few
  have hmt := hok.mate
  obtain ⟨lo, co, rfl⟩ := own_form hbld.op
  rw [hm] at hbld
  clear hm
  have HBLD := Lib.hid hbld
  have HMT := Lib.hid hmt
  have HSZ := Lib.hid hsz
  have hrow0 : ∀ j v, (blkC b (pl i))[j]? = some v → w.cell? ⟨sb, so + i * 11 + j, none⟩ = some v := fun j v hv => by
    rw [hcc j (by have := (List.getElem?_eq_some_iff.1 hv).1; simpa [blkC] using this), blksC_at HB.out]; exact hv
  have HR0 := Lib.hid hrow0
  clear hbld hok hsrc hb hv h0 hl hcc hmt hsz hrow0 hsb
  go_enter Try.func39, Try.ntmps39
  go_wp2_with fail
  refine region_L (fun W => (∀ j v, (blkC b (pl i))[j]? = some v → W.cell? ⟨sb, so + i * 11 + j, none⟩ = some v) ∧ W.cell? ⟨S, 2, none⟩ = some (.slice lo 0 co)) [] (by kernel_rfl) ?_
  have hS0 : (∀ j v, (blkC b (pl i))[j]? = some v → w.drew.cell? ⟨sb, so + i * 11 + j, none⟩ = some v) ∧ w.drew.cell? ⟨S, 2, none⟩ = some (.slice lo 0 co) := ⟨HR0.out, HBLD.out.blk.cell' 2 rfl⟩
  refine take_P 0 (v := .slice (some ⟨sb, so, none⟩) bs.length cap) rfl (by kernel_rfl) (by kernel_rfl) (by kernel_rfl) (fun _ _ _ h => h) rfl (fun W' => by go_simp) ?_
  refine take_P 1 (v := .int .i64 i) rfl (by kernel_rfl) (by kernel_rfl) (by kernel_rfl) (fun _ _ _ h => h) rfl (fun W' => by go_simp) ?_
  refine take_P 2 (v := .pointer (some ⟨sb, so + i * 11, none⟩)) rfl (by kernel_rfl) (by kernel_rfl) (by kernel_rfl) (fun _ _ _ h => h) rfl (fun W' => by go_simp) ?_
  refine take_L 3 (v := .agg (blkC b (pl i)).toArray) rfl (by kernel_rfl) (by kernel_rfl) (by kernel_rfl) (by kernel_rfl) (fun _ _ _ h => h) rfl (fun W' hW' => by exact exec_load 37 (.tmp 15) rfl ⟨sb, so + i * 11, none⟩ _ (by go_simp) (run_loadAt_mid W' sb (so + i * 11) 37 (blkC b (pl i)) _ hW'.1 Try.underlying37 rfl (by kernel_rfl))) hS0 ?_
  refine take_P 4 (v := .pointer (some ⟨S, 0, none⟩)) rfl (by kernel_rfl) (by kernel_rfl) (by kernel_rfl) (fun _ _ _ h => h) rfl (fun W' => by go_simp) ?_
  refine take_P 5 (v := .pointer (some ⟨S, 0, none⟩)) rfl (by kernel_rfl) (by kernel_rfl) (by kernel_rfl) (fun _ _ _ h => h) rfl (fun W' => by go_simp) ?_
  refine take_P 6 (v := .pointer (some ⟨S, 2, none⟩)) rfl (by kernel_rfl) (by kernel_rfl) (by kernel_rfl) (fun _ _ _ h => h) rfl (fun W' => by go_simp) ?_
  refine take_L 7 (v := .slice lo 0 co) rfl (by kernel_rfl) (by kernel_rfl) (by kernel_rfl) (by kernel_rfl) (fun _ _ _ h => h) rfl (fun W' hW' => by have e2 := hW'.2; clear hW'; go_simp) hS0 ?_
  refine take_P 8 (v := .int .i64 0) rfl (by kernel_rfl) (by kernel_rfl) (by kernel_rfl) (fun _ _ _ h => h) rfl (fun W' => by go_simp) ?_
  have hkeep : ∀ o : Obj, (∀ j v, (blkC b (pl i))[j]? = some v → (w.drew.alloc o).cell? ⟨sb, so + i * 11 + j, none⟩ = some v) ∧ (w.drew.alloc o).cell? ⟨S, 2, none⟩ = some (.slice lo 0 co) := fun o => by
    have hb1 : Below w.heap.size w (w.drew.alloc o) := ((Below.refl _ _).drew).alloc (Nat.le_refl _) o
    exact ⟨fun j v hv => (hb1.cell (p := ⟨sb, so + i * 11 + j, none⟩) (block_lt_of_cell (HR0.out j v hv))).trans (HR0.out j v hv), (HBLD.out.blk.below hb1 HBLD.out.blk.lt).cell' 2 rfl⟩
  refine one_L 9 (by kernel_rfl) rfl rfl fun K9 hK9 => ?_
  have HK9 := Lib.hid hK9
  clear hK9
  go_simp
  refine HK9.out _ _ (fun _ _ => hkeep _) ?_
  refine one_L 10 (by kernel_rfl) rfl rfl fun K10 hK10 => ?_
  have HK10 := Lib.hid hK10
  clear hK10
  refine wp_store_new (w := w.drew) 37 (.tmp 8) (.tmp 16) rfl #[.int .i64 0, .int .i64 0, .bool false, .slice none 0 0, .int .i64 0, .int .i64 0, .slice none 0 0, .int .i64 0, .int .i64 0, .slice none 0 0, .int .i64 0] (blkC b (pl i)).toArray rfl rfl (by kernel_rfl) rfl (all_oneCell_toArray blkC_one) ?_
  refine HK10.out _ _ (fun _ _ => hkeep _) ?_
  refine one_L 11 (by kernel_rfl) rfl rfl fun K11 hK11 => ?_
  have HK11 := Lib.hid hK11
  clear hK11
  go_simp
  refine HK11.out _ _ (fun _ _ => hkeep _) ?_
  refine done_L (by kernel_rfl) ?_ _
  have hst : AddSt w base S w.heap.size b (pl i) s.progs 0 s.mate s.op (numsOf s.progs) (labelsOf bs (lastFirst s.progs) i) vp vm (.slice lo 0 co) bn bl (w.drew.alloc (.cells (blkC b (pl i)).toArray 37)) := by
    have hb1 : Below w.heap.size w (w.drew.alloc (.cells (blkC b (pl i)).toArray 37)) := ((Below.refl _ _).drew).alloc (Nat.le_refl _) _
    refine ⟨HBLD.out.under hb1, Blk.new w.drew 37 _, hb1.mono HSZ.out, by have := HSZ.out; simp; omega⟩
  refine on_told (fun W => AddSt w base S w.heap.size b (pl i) s.progs 0 s.mate s.op (numsOf s.progs) (labelsOf bs (lastFirst s.progs) i) vp vm (.slice lo 0 co) bn bl W) hst fun W1 h1 => ?_
  clear hst hkeep hS0 HK9 HK10 HK11
  have H1 := Lib.hid h1
  have f1 := h1.bld.blk.cell 1
  have HM1 := Lib.hid (h1.bld.mate.alloc (.cells #[.int .i64 (-1)] 3))
  have HB1 := Lib.hid (Blk.new W1 3 #[.int .i64 (-1)])
  have HL1 := Lib.hid (show base ≤ (W1.alloc (.cells #[.int .i64 (-1)] 3)).heap.size by have := h1.size; simp; omega)
  clear h1
  go_simp
  go_wp2_with (at_builtin; refine wpList_push rfl (.tmp 26) (.tmp 27) 23 rfl base 3 (.int .i64 0) 1 8 Try.underlying23 infoInt rfl (by decide) (by decide) vm s.mate.length (intC s.mate) rfl HM1.out W1.heap.size [.int .i64 (-1)] rfl HB1.out rfl (by simp [Value.oneCell']) ?c1 HL1.out ?c2)
  case c1 => have := HMT.out; omega
  case c2 =>
    intro g c w2 hp
    have h2 := H1.out
    have hb1 : Below W1.heap.size W1 (W1.alloc (.cells #[.int .i64 (-1)] 3)) := (Below.refl _ _).alloc (Nat.le_refl _) _
    have hbl2 := (h2.bld.under hb1).pushMate hp
    have hS2 : Blk w2 S 69 _ := (h2.bld.blk.alloc _).grown hp.grown (own_ne h2.bld.mate h2.bld.blk (by decide))
    have hN2 : Blk w2 w.heap.size 37 (blkC b (pl i)).toArray := (h2.blk.alloc _).grown hp.grown (own_ne h2.bld.mate h2.blk (by decide))
    have hsz2 := h2.size
    have hsl2 := hp.grown.size
    have hst : AddSt w base S w.heap.size b (pl i) s.progs 0 (s.mate ++ [-1]) s.op (numsOf s.progs) (labelsOf bs (lastFirst s.progs) i) vp (.slice (some ⟨g, 0, none⟩) (s.mate.length + 1) c) (.slice lo 0 co) bn bl (w2.setCell ⟨S, 1, none⟩ (.slice (some ⟨g, 0, none⟩) (s.mate.length + 1) c)) := by
      refine ⟨hbl2, hN2.far (p := ⟨S, 1, none⟩) (fun e => ?_) _, ?_, by simp at hsl2 ⊢; omega⟩
      · have e' : w.heap.size = S := e
        rw [e'] at hN2
        unfold Blk at hN2 hS2
        rw [hS2] at hN2
        injection hN2 with hN2
        injection hN2 with _ hN2
        exact absurd hN2 (by decide)
      · exact ((h2.bel.alloc hsz2 _).trans (below_of_grown hp.grown (by simp; omega) (fun k e => (h2.bld.mate.lt k e).1))).setCell h2.bld.far.1 _
    have HST := Lib.hid hst
    have t1 := hS2.cell 1
    have z1 := hS2.frozen 1
    clear hst hp hS2 hN2 hbl2 h2 hb1 hsl2
    go_upto_region 3 with (fail)
    refine on_told (fun W => AddSt w base S w.heap.size b (pl i) s.progs 0 (s.mate ++ [-1]) s.op (numsOf s.progs) (labelsOf bs (lastFirst s.progs) i) vp (.slice (some ⟨g, 0, none⟩) (s.mate.length + 1) c) (.slice lo 0 co) bn bl W) HST.out fun W2 h2 => ?_
    clear HST t1 z1 HM1 HB1 HL1 H1 f1
    have H2 := Lib.hid h2
    have n0 := h2.kind
    have n1 := h2.label
    have n6 := h2.n
    clear h2
    go_wp2_with fail
    refine region_L (fun W => AddSt w base S w.heap.size b (pl i) s.progs 0 (s.mate ++ [-1]) s.op (numsOf s.progs) (labelsOf bs (lastFirst s.progs) i) vp (.slice (some ⟨g, 0, none⟩) (s.mate.length + 1) c) (.slice lo 0 co) bn bl W) [] (by kernel_rfl) ?_
    have hS0 := H2.out.drew
    refine take_P 0 (v := .pointer (some ⟨S, 0, none⟩)) rfl (by kernel_rfl) (by kernel_rfl) (by kernel_rfl) (fun _ _ _ h => h) rfl (fun W' => by go_simp) ?_
    refine take_P 1 (v := .pointer (some ⟨S, 0, none⟩)) rfl (by kernel_rfl) (by kernel_rfl) (by kernel_rfl) (fun _ _ _ h => h) rfl (fun W' => by go_simp) ?_
    refine take_P 2 (v := .pointer (some ⟨S, 3, none⟩)) rfl (by kernel_rfl) (by kernel_rfl) (by kernel_rfl) (fun _ _ _ h => h) rfl (fun W' => by go_simp) ?_
    refine take_L 3 (v := .map (some bn)) rfl (by kernel_rfl) (by kernel_rfl) (by kernel_rfl) (by kernel_rfl) (fun _ _ _ h => h) rfl (fun W' hW' => by have e4 := hW'.bld.blk.cell' 3 rfl; clear hW'; go_simp) hS0 ?_
    refine take_P 4 (v := .pointer (some ⟨w.heap.size, 10, none⟩)) rfl (by kernel_rfl) (by kernel_rfl) (by kernel_rfl) (fun _ _ _ h => h) rfl (fun W' => by go_simp) ?_
    refine take_L 5 (v := .int .i64 b.n) rfl (by kernel_rfl) (by kernel_rfl) (by kernel_rfl) (by kernel_rfl) (fun _ _ _ h => h) rfl (fun W' hW' => by have e4 := hW'.n; clear hW'; go_simp) hS0 ?_
    refine take_L 6 (v := .bool true) rfl (by kernel_rfl) (by kernel_rfl) (by kernel_rfl) (by kernel_rfl) (fun _ _ _ h => h) rfl (fun W' hW' => by exact exec_lookup 67 (.tmp 47) (.tmp 49) rfl (.map (some bn)) (.int .i64 b.n) (.bool true) (by go_simp) (by go_simp) (by have h9 := hW'.bld.nums.look Try.underlying3 Try.underlying67 (zero_bool W') NWF.out NKWF.out; rw [NMEM.out] at h9; exact h9)) hS0 ?_
    refine done_L (by kernel_rfl) ?_ _
    refine on_told (fun W => AddSt w base S w.heap.size b (pl i) s.progs 0 (s.mate ++ [-1]) s.op (numsOf s.progs) (labelsOf bs (lastFirst s.progs) i) vp (.slice (some ⟨g, 0, none⟩) (s.mate.length + 1) c) (.slice lo 0 co) bn bl W) hS0 fun W3 h3 => ?_
    clear hS0 H2 n0 n1 n6
    have H2 := Lib.hid h3
    have n0 := h3.kind
    have n1 := h3.label
    have n6 := h3.n
    clear h3
    go_simp
    go_wp2_with fail
    go_ret2
    exact AddPost.err HERR.out H2.out.bel rfl
set_option maxRecDepth 100000 in
set_option maxHeartbeats 4000000 in
theorem add_prog_none (bs : List BlkL) (a : Option Addr) (cap : Nat) (pl : Nat → Place) (base S i : Nat) (b : BlkL) (s : StL) (w : World) (hsrc : ∀ W, Below base w W → base ≤ W.heap.size → BlksAt W bs a cap pl) (hsz : base ≤ w.heap.size)
    (hb : bs[i]? = some b) (hvs : ∀ (j : Nat) (b : BlkL), bs[j]? = some b → validB b = true) (hok : StOK bs i s) (hlen : bs.length ≤ 2000) (hbld : BldSome base S s.progs s.mate s.op (numsOf s.progs) (labelsOf bs (lastFirst s.progs) i) w)
    (hk : b.kind = 6) (hm : s.op.length = 0) (hd : dupN b s = false) (hlab : b.label ≤ 0) :
    Calls Try.prog 39 #[.pointer (some ⟨S, 0, none⟩), .slice a bs.length cap, .int .i64 i] w (AddPost bs b i s base S w) := by
  have k4 : (b.kind == 4) = false := by simp; omega
  have k5 : (b.kind == 5) = false := by simp; omega
  have k6 : (b.kind == 6) = true := by simp; omega
  have hv := hvs i b hb
  have hnn := valid_prog hv hk
  have hdn := dupN_nums hok (b := b) hnn.1
  have NWF := Lib.hid (wf_small (x := b.n) (by omega) (by omega))
  have NKWF := Lib.hid (nums_wf hok)
  have NMEM := Lib.hid (show decide (b.n ∈ numsOf s.progs) = false by rw [← hdn]; exact hd)
  have l0 : decide (0 < b.label) = false := decide_eq_false (by omega)
  have hdl : dupL bs b i s = false := decide_eq_false (by omega)
  have HLABS := Lib.hid (show labelsOf bs i (i + 1) = [] by rw [labelsOf_succ hb (Nat.le_refl i), if_neg (by omega), List.append_nil, labelsOf_at])
  have HOKS := Lib.hid (show stepB bs b i s = .ok ⟨s.progs ++ [(b.n, i)], s.mate ++ [-1], s.op⟩ by
    unfold stepB
    rw [if_neg (by rintro ⟨_, h⟩; exact h (List.length_eq_zero_iff.1 hm)), if_neg (by rw [hd]; simp), hdl, if_neg (by decide), if_neg (by omega), if_neg (by omega), progsB, if_pos hk])
  clear hk hvs hnn hdn hd hlab hdl
  have hi : i < bs.length := (List.getElem?_eq_some_iff.1 hb).1
  have h0 := hsrc w (Below.refl _ _) hsz
  obtain ⟨hl, sb, so, rfl, hsb, hcc⟩ := h0.tab i hi
  have i0 : (0 : Int) ≤ (i : Int) := by omega
  have i1 : (i : Int) < (bs.length : Int) := by omega
  obtain ⟨vp, vm, vo, bn, bl, hbld⟩ := hbld
  have HOK := Lib.hid hok
  have HSRC := Lib.hid hsrc
  have HB := Lib.hid hb
  have HV := Lib.hid hv
  have hop := hok.few
  have hmt := hok.mate
  obtain ⟨lo, co, rfl⟩ := own_form hbld.op
  rw [hm] at hbld
  clear hm
  have HBLD := Lib.hid hbld
  have HMT := Lib.hid hmt
  have HSZ := Lib.hid hsz
  have hrow0 : ∀ j v, (blkC b (pl i))[j]? = some v → w.cell? ⟨sb, so + i * 11 + j, none⟩ = some v := fun j v hv => by
    rw [hcc j (by have := (List.getElem?_eq_some_iff.1 hv).1; simpa [blkC] using this), blksC_at HB.out]; exact hv
  have HR0 := Lib.hid hrow0
  clear hbld hok hsrc hb hv h0 hl hcc hmt hsz hrow0 hsb
  go_enter Try.func39, Try.ntmps39
  go_wp2_with fail
  refine region_L (fun W => (∀ j v, (blkC b (pl i))[j]? = some v → W.cell? ⟨sb, so + i * 11 + j, none⟩ = some v) ∧ W.cell? ⟨S, 2, none⟩ = some (.slice lo 0 co)) [] (by kernel_rfl) ?_
  have hS0 : (∀ j v, (blkC b (pl i))[j]? = some v → w.drew.cell? ⟨sb, so + i * 11 + j, none⟩ = some v) ∧ w.drew.cell? ⟨S, 2, none⟩ = some (.slice lo 0 co) := ⟨HR0.out, HBLD.out.blk.cell' 2 rfl⟩
  refine take_P 0 (v := .slice (some ⟨sb, so, none⟩) bs.length cap) rfl (by kernel_rfl) (by kernel_rfl) (by kernel_rfl) (fun _ _ _ h => h) rfl (fun W' => by go_simp) ?_
  refine take_P 1 (v := .int .i64 i) rfl (by kernel_rfl) (by kernel_rfl) (by kernel_rfl) (fun _ _ _ h => h) rfl (fun W' => by go_simp) ?_
  refine take_P 2 (v := .pointer (some ⟨sb, so + i * 11, none⟩)) rfl (by kernel_rfl) (by kernel_rfl) (by kernel_rfl) (fun _ _ _ h => h) rfl (fun W' => by go_simp) ?_
  refine take_L 3 (v := .agg (blkC b (pl i)).toArray) rfl (by kernel_rfl) (by kernel_rfl) (by kernel_rfl) (by kernel_rfl) (fun _ _ _ h => h) rfl (fun W' hW' => by exact exec_load 37 (.tmp 15) rfl ⟨sb, so + i * 11, none⟩ _ (by go_simp) (run_loadAt_mid W' sb (so + i * 11) 37 (blkC b (pl i)) _ hW'.1 Try.underlying37 rfl (by kernel_rfl))) hS0 ?_
  refine take_P 4 (v := .pointer (some ⟨S, 0, none⟩)) rfl (by kernel_rfl) (by kernel_rfl) (by kernel_rfl) (fun _ _ _ h => h) rfl (fun W' => by go_simp) ?_
  refine take_P 5 (v := .pointer (some ⟨S, 0, none⟩)) rfl (by kernel_rfl) (by kernel_rfl) (by kernel_rfl) (fun _ _ _ h => h) rfl (fun W' => by go_simp) ?_
  refine take_P 6 (v := .pointer (some ⟨S, 2, none⟩)) rfl (by kernel_rfl) (by kernel_rfl) (by kernel_rfl) (fun _ _ _ h => h) rfl (fun W' => by go_simp) ?_
  refine take_L 7 (v := .slice lo 0 co) rfl (by kernel_rfl) (by kernel_rfl) (by kernel_rfl) (by kernel_rfl) (fun _ _ _ h => h) rfl (fun W' hW' => by have e2 := hW'.2; clear hW'; go_simp) hS0 ?_
  refine take_P 8 (v := .int .i64 0) rfl (by kernel_rfl) (by kernel_rfl) (by kernel_rfl) (fun _ _ _ h => h) rfl (fun W' => by go_simp) ?_
  have hkeep : ∀ o : Obj, (∀ j v, (blkC b (pl i))[j]? = some v → (w.drew.alloc o).cell? ⟨sb, so + i * 11 + j, none⟩ = some v) ∧ (w.drew.alloc o).cell? ⟨S, 2, none⟩ = some (.slice lo 0 co) := fun o => by
    have hb1 : Below w.heap.size w (w.drew.alloc o) := ((Below.refl _ _).drew).alloc (Nat.le_refl _) o
    exact ⟨fun j v hv => (hb1.cell (p := ⟨sb, so + i * 11 + j, none⟩) (block_lt_of_cell (HR0.out j v hv))).trans (HR0.out j v hv), (HBLD.out.blk.below hb1 HBLD.out.blk.lt).cell' 2 rfl⟩
  refine one_L 9 (by kernel_rfl) rfl rfl fun K9 hK9 => ?_
  have HK9 := Lib.hid hK9
  clear hK9
  go_simp
  refine HK9.out _ _ (fun _ _ => hkeep _) ?_
  refine one_L 10 (by kernel_rfl) rfl rfl fun K10 hK10 => ?_
  have HK10 := Lib.hid hK10
  clear hK10
  refine wp_store_new (w := w.drew) 37 (.tmp 8) (.tmp 16) rfl #[.int .i64 0, .int .i64 0, .bool false, .slice none 0 0, .int .i64 0, .int .i64 0, .slice none 0 0, .int .i64 0, .int .i64 0, .slice none 0 0, .int .i64 0] (blkC b (pl i)).toArray rfl rfl (by kernel_rfl) rfl (all_oneCell_toArray blkC_one) ?_
  refine HK10.out _ _ (fun _ _ => hkeep _) ?_
  refine one_L 11 (by kernel_rfl) rfl rfl fun K11 hK11 => ?_
  have HK11 := Lib.hid hK11
  clear hK11
  go_simp
  refine HK11.out _ _ (fun _ _ => hkeep _) ?_
  refine done_L (by kernel_rfl) ?_ _
  have hst : AddSt w base S w.heap.size b (pl i) s.progs 0 s.mate s.op (numsOf s.progs) (labelsOf bs (lastFirst s.progs) i) vp vm (.slice lo 0 co) bn bl (w.drew.alloc (.cells (blkC b (pl i)).toArray 37)) := by
    have hb1 : Below w.heap.size w (w.drew.alloc (.cells (blkC b (pl i)).toArray 37)) := ((Below.refl _ _).drew).alloc (Nat.le_refl _) _
    refine ⟨HBLD.out.under hb1, Blk.new w.drew 37 _, hb1.mono HSZ.out, by have := HSZ.out; simp; omega⟩
  refine on_told (fun W => AddSt w base S w.heap.size b (pl i) s.progs 0 s.mate s.op (numsOf s.progs) (labelsOf bs (lastFirst s.progs) i) vp vm (.slice lo 0 co) bn bl W) hst fun W1 h1 => ?_
  clear hst hkeep hS0 HK9 HK10 HK11
  have H1 := Lib.hid h1
  have f1 := h1.bld.blk.cell 1
  have HM1 := Lib.hid (h1.bld.mate.alloc (.cells #[.int .i64 (-1)] 3))
  have HB1 := Lib.hid (Blk.new W1 3 #[.int .i64 (-1)])
  have HL1 := Lib.hid (show base ≤ (W1.alloc (.cells #[.int .i64 (-1)] 3)).heap.size by have := h1.size; simp; omega)
  clear h1
  go_simp
  go_wp2_with (at_builtin; refine wpList_push rfl (.tmp 26) (.tmp 27) 23 rfl base 3 (.int .i64 0) 1 8 Try.underlying23 infoInt rfl (by decide) (by decide) vm s.mate.length (intC s.mate) rfl HM1.out W1.heap.size [.int .i64 (-1)] rfl HB1.out rfl (by simp [Value.oneCell']) ?c1 HL1.out ?c2)
  case c1 => have := HMT.out; omega
  case c2 =>
    intro g c w2 hp
    have h2 := H1.out
    have hb1 : Below W1.heap.size W1 (W1.alloc (.cells #[.int .i64 (-1)] 3)) := (Below.refl _ _).alloc (Nat.le_refl _) _
    have hbl2 := (h2.bld.under hb1).pushMate hp
    have hS2 : Blk w2 S 69 _ := (h2.bld.blk.alloc _).grown hp.grown (own_ne h2.bld.mate h2.bld.blk (by decide))
    have hN2 : Blk w2 w.heap.size 37 (blkC b (pl i)).toArray := (h2.blk.alloc _).grown hp.grown (own_ne h2.bld.mate h2.blk (by decide))
    have hsz2 := h2.size
    have hsl2 := hp.grown.size
    have hst : AddSt w base S w.heap.size b (pl i) s.progs 0 (s.mate ++ [-1]) s.op (numsOf s.progs) (labelsOf bs (lastFirst s.progs) i) vp (.slice (some ⟨g, 0, none⟩) (s.mate.length + 1) c) (.slice lo 0 co) bn bl (w2.setCell ⟨S, 1, none⟩ (.slice (some ⟨g, 0, none⟩) (s.mate.length + 1) c)) := by
      refine ⟨hbl2, hN2.far (p := ⟨S, 1, none⟩) (fun e => ?_) _, ?_, by simp at hsl2 ⊢; omega⟩
      · have e' : w.heap.size = S := e
        rw [e'] at hN2
        unfold Blk at hN2 hS2
        rw [hS2] at hN2
        injection hN2 with hN2
        injection hN2 with _ hN2
        exact absurd hN2 (by decide)
      · exact ((h2.bel.alloc hsz2 _).trans (below_of_grown hp.grown (by simp; omega) (fun k e => (h2.bld.mate.lt k e).1))).setCell h2.bld.far.1 _
    have HST := Lib.hid hst
    have t1 := hS2.cell 1
    have z1 := hS2.frozen 1
    clear hst hp hS2 hN2 hbl2 h2 hb1 hsl2
    go_upto_region 3 with (fail)
    refine on_told (fun W => AddSt w base S w.heap.size b (pl i) s.progs 0 (s.mate ++ [-1]) s.op (numsOf s.progs) (labelsOf bs (lastFirst s.progs) i) vp (.slice (some ⟨g, 0, none⟩) (s.mate.length + 1) c) (.slice lo 0 co) bn bl W) HST.out fun W2 h2 => ?_
    clear HST t1 z1 HM1 HB1 HL1 H1 f1
    have H2 := Lib.hid h2
    have n0 := h2.kind
    have n1 := h2.label
    have n6 := h2.n
    clear h2
    go_wp2_with fail
    refine region_L (fun W => AddSt w base S w.heap.size b (pl i) s.progs 0 (s.mate ++ [-1]) s.op (numsOf s.progs) (labelsOf bs (lastFirst s.progs) i) vp (.slice (some ⟨g, 0, none⟩) (s.mate.length + 1) c) (.slice lo 0 co) bn bl W) [] (by kernel_rfl) ?_
    have hS0 := H2.out.drew
    refine take_P 0 (v := .pointer (some ⟨S, 0, none⟩)) rfl (by kernel_rfl) (by kernel_rfl) (by kernel_rfl) (fun _ _ _ h => h) rfl (fun W' => by go_simp) ?_
    refine take_P 1 (v := .pointer (some ⟨S, 0, none⟩)) rfl (by kernel_rfl) (by kernel_rfl) (by kernel_rfl) (fun _ _ _ h => h) rfl (fun W' => by go_simp) ?_
    refine take_P 2 (v := .pointer (some ⟨S, 3, none⟩)) rfl (by kernel_rfl) (by kernel_rfl) (by kernel_rfl) (fun _ _ _ h => h) rfl (fun W' => by go_simp) ?_
    refine take_L 3 (v := .map (some bn)) rfl (by kernel_rfl) (by kernel_rfl) (by kernel_rfl) (by kernel_rfl) (fun _ _ _ h => h) rfl (fun W' hW' => by have e4 := hW'.bld.blk.cell' 3 rfl; clear hW'; go_simp) hS0 ?_
    refine take_P 4 (v := .pointer (some ⟨w.heap.size, 10, none⟩)) rfl (by kernel_rfl) (by kernel_rfl) (by kernel_rfl) (fun _ _ _ h => h) rfl (fun W' => by go_simp) ?_
    refine take_L 5 (v := .int .i64 b.n) rfl (by kernel_rfl) (by kernel_rfl) (by kernel_rfl) (by kernel_rfl) (fun _ _ _ h => h) rfl (fun W' hW' => by have e4 := hW'.n; clear hW'; go_simp) hS0 ?_
    refine take_L 6 (v := .bool false) rfl (by kernel_rfl) (by kernel_rfl) (by kernel_rfl) (by kernel_rfl) (fun _ _ _ h => h) rfl (fun W' hW' => by exact exec_lookup 67 (.tmp 47) (.tmp 49) rfl (.map (some bn)) (.int .i64 b.n) (.bool false) (by go_simp) (by go_simp) (by have h9 := hW'.bld.nums.look Try.underlying3 Try.underlying67 (zero_bool W') NWF.out NKWF.out; rw [NMEM.out] at h9; exact h9)) hS0 ?_
    refine done_L (by kernel_rfl) ?_ _
    refine on_told (fun W => AddSt w base S w.heap.size b (pl i) s.progs 0 (s.mate ++ [-1]) s.op (numsOf s.progs) (labelsOf bs (lastFirst s.progs) i) vp (.slice (some ⟨g, 0, none⟩) (s.mate.length + 1) c) (.slice lo 0 co) bn bl W) hS0 fun W3 h3 => ?_
    clear hS0 H2 n0 n1 n6
    have H2 := Lib.hid h3
    have n0 := h3.kind
    have n1 := h3.label
    have n6 := h3.n
    clear h3
    go_simp
    go_wp2_with fail
    refine region_L (fun W => AddSt w base S w.heap.size b (pl i) s.progs 0 (s.mate ++ [-1]) s.op (numsOf s.progs) (labelsOf bs (lastFirst s.progs) i) vp (.slice (some ⟨g, 0, none⟩) (s.mate.length + 1) c) (.slice lo 0 co) bn bl W) [6] (by kernel_rfl) ?_
    have hS0 := H2.out.drew
    refine take_P 0 (v := .pointer (some ⟨S, 0, none⟩)) rfl (by kernel_rfl) (by kernel_rfl) (by kernel_rfl) (fun _ _ _ h => h) rfl (fun W' => by go_simp) ?_
    refine take_P 1 (v := .pointer (some ⟨S, 0, none⟩)) rfl (by kernel_rfl) (by kernel_rfl) (by kernel_rfl) (fun _ _ _ h => h) rfl (fun W' => by go_simp) ?_
    refine take_P 2 (v := .pointer (some ⟨S, 3, none⟩)) rfl (by kernel_rfl) (by kernel_rfl) (by kernel_rfl) (fun _ _ _ h => h) rfl (fun W' => by go_simp) ?_
    refine take_L 3 (v := .map (some bn)) rfl (by kernel_rfl) (by kernel_rfl) (by kernel_rfl) (by kernel_rfl) (fun _ _ _ h => h) rfl (fun W' hW' => by have e4 := hW'.bld.blk.cell' 3 rfl; clear hW'; go_simp) hS0 ?_
    refine take_P 4 (v := .pointer (some ⟨w.heap.size, 10, none⟩)) rfl (by kernel_rfl) (by kernel_rfl) (by kernel_rfl) (fun _ _ _ h => h) rfl (fun W' => by go_simp) ?_
    refine take_L 5 (v := .int .i64 b.n) rfl (by kernel_rfl) (by kernel_rfl) (by kernel_rfl) (by kernel_rfl) (fun _ _ _ h => h) rfl (fun W' hW' => by have e4 := hW'.n; clear hW'; go_simp) hS0 ?_
    obtain ⟨w9, hrun, hset, hgr⟩ := hS0.bld.nums.store (P := Try.prog) Try.underlying3 Try.underlying67 NWF.out NKWF.out (of_decide_eq_false NMEM.out)
    have hst9 := add_num hS0 hset hgr
    refine one_L 6 (by kernel_rfl) rfl rfl fun K6 hK6 => ?_
    have HK6 := Lib.hid hK6
    clear hK6
    go_simp
    refine HK6.out _ _ (fun h => absurd h (by decide)) ?_
    refine done_L (by kernel_rfl) ?_ _
    refine on_told (fun W => AddSt w base S w.heap.size b (pl i) s.progs 0 (s.mate ++ [-1]) s.op (numsOf s.progs ++ [b.n]) (labelsOf bs (lastFirst s.progs) i) vp (.slice (some ⟨g, 0, none⟩) (s.mate.length + 1) c) (.slice lo 0 co) bn bl W) hst9 fun W4 h4 => ?_
    clear hS0 H2 n0 n1 n6 hst9 hrun hset hgr HK6
    obtain ⟨q, hq⟩ : ∃ q, s.progs.length = q + 1 := by
      obtain ⟨r, e, _, _⟩ := HOK.out.progs
      exact ⟨r.length, by rw [e]; rfl⟩
    have hqi : q ≤ i := by
      obtain ⟨r, e, h1, _⟩ := HOK.out.progs
      rw [e] at hq
      simp at hq
      omega
    obtain ⟨gp, cp, rfl, hgp1, hgp2, hcel, hfro⟩ := h4.bld.progAt (k := q) (by omega)
    have HE := Lib.hid (h4.drew.endSet (by intro e; rw [e] at hq; cases hq) rfl i)
    have HQ := Lib.hid hq
    have H4 := Lib.hid h4
    have c9 : W4.drew.cell? ⟨gp, q * 3 + 2, none⟩ = some (.int .i64 0) := by
      have := hcel 2 (by decide)
      have e2 : ¬ q + 1 < s.progs.length := by omega
      simp only [progC, e2, if_false] at this
      exact this
    have z9 : W4.drew.frozen? ⟨gp, q * 3 + 2, none⟩ = false := hfro _
    have hvq := h4.bld.blk
    rw [hq] at hvq
    have HVQ := Lib.hid hvq
    clear h4 hcel hfro hvq
    go_simp
    go_wp2_with fail
    refine region_L (fun W => W.cell? ⟨S, 0, none⟩ = some (.slice (some ⟨gp, 0, none⟩) (q + 1) cp)) [13] (by kernel_rfl) ?_
    have hS0 : W4.drew.cell? ⟨S, 0, none⟩ = some (.slice (some ⟨gp, 0, none⟩) (q + 1) cp) := HVQ.out.cell' 0 rfl
    have q0 : (0 : Int) ≤ (q : Int) := by omega
    have q1 : (q : Int) < (q : Int) + 1 := by omega
    refine take_P 0 (v := .pointer (some ⟨S, 0, none⟩)) rfl (by kernel_rfl) (by kernel_rfl) (by kernel_rfl) (fun _ _ _ h => h) rfl (fun W' => by go_simp) ?_
    refine take_P 1 (v := .pointer (some ⟨S, 0, none⟩)) rfl (by kernel_rfl) (by kernel_rfl) (by kernel_rfl) (fun _ _ _ h => h) rfl (fun W' => by go_simp) ?_
    refine take_P 2 (v := .pointer (some ⟨S, 0, none⟩)) rfl (by kernel_rfl) (by kernel_rfl) (by kernel_rfl) (fun _ _ _ h => h) rfl (fun W' => by go_simp) ?_
    refine take_L 3 (v := (.slice (some ⟨gp, 0, none⟩) (q + 1) cp)) rfl (by kernel_rfl) (by kernel_rfl) (by kernel_rfl) (by kernel_rfl) (fun _ _ _ h => h) rfl (fun W' hW' => by have e4 := hW'; clear hW'; go_simp) hS0 ?_
    refine take_P 4 (v := .pointer (some ⟨S, 0, none⟩)) rfl (by kernel_rfl) (by kernel_rfl) (by kernel_rfl) (fun _ _ _ h => h) rfl (fun W' => by go_simp) ?_
    refine take_P 5 (v := .pointer (some ⟨S, 0, none⟩)) rfl (by kernel_rfl) (by kernel_rfl) (by kernel_rfl) (fun _ _ _ h => h) rfl (fun W' => by go_simp) ?_
    refine take_P 6 (v := .pointer (some ⟨S, 0, none⟩)) rfl (by kernel_rfl) (by kernel_rfl) (by kernel_rfl) (fun _ _ _ h => h) rfl (fun W' => by go_simp) ?_
    refine take_L 7 (v := (.slice (some ⟨gp, 0, none⟩) (q + 1) cp)) rfl (by kernel_rfl) (by kernel_rfl) (by kernel_rfl) (by kernel_rfl) (fun _ _ _ h => h) rfl (fun W' hW' => by have e4 := hW'; clear hW'; go_simp) hS0 ?_
    refine take_P 8 (v := .int .i64 (q + 1)) rfl (by kernel_rfl) (by kernel_rfl) (by kernel_rfl) (fun _ _ _ h => h) rfl (fun W' => by go_simp) ?_
    refine take_P 9 (v := .int .i64 q) rfl (by kernel_rfl) (by kernel_rfl) (by kernel_rfl) (fun _ _ _ h => h) rfl (fun W' => by have e4 : IntKind.i64.wrap (q : Int) = q := IntWalk.i64_in _ (by omega); go_simp) ?_
    refine take_P 10 (v := .int .i64 i) rfl (by kernel_rfl) (by kernel_rfl) (by kernel_rfl) (fun _ _ _ h => h) rfl (fun W' => by go_simp) ?_
    refine take_P 11 (v := .pointer (some ⟨gp, q * 3, none⟩)) rfl (by kernel_rfl) (by kernel_rfl) (by kernel_rfl) (fun _ _ _ h => h) rfl (fun W' => by go_simp) ?_
    refine take_P 12 (v := .pointer (some ⟨gp, q * 3 + 2, none⟩)) rfl (by kernel_rfl) (by kernel_rfl) (by kernel_rfl) (fun _ _ _ h => h) rfl (fun W' => by go_simp) ?_
    refine one_L 13 (by kernel_rfl) rfl rfl fun K13 hK13 => ?_
    have HK13 := Lib.hid hK13
    clear hK13
    go_simp
    refine HK13.out _ _ (fun h => absurd h (by decide)) ?_
    refine done_L (by kernel_rfl) ?_ _
    have hst9 := HE.out
    rw [HQ.out, Nat.add_sub_cancel] at hst9
    refine on_told (fun W => AddSt w base S w.heap.size b (pl i) s.progs i (s.mate ++ [-1]) s.op (numsOf s.progs ++ [b.n]) (labelsOf bs (lastFirst s.progs) i) (.slice (some ⟨gp, 0, none⟩) (q + 1) cp) (.slice (some ⟨g, 0, none⟩) (s.mate.length + 1) c) (.slice lo 0 co) bn bl W) hst9 fun W5 h5 => ?_
    clear hS0 hst9 HE H4 c9 z9 HVQ HK13
    have H5 := Lib.hid h5
    clear h5
    go_simp
    go_wp2_with fail
    refine region_L (fun W => W.cell? ⟨S, 0, none⟩ = some (.slice (some ⟨gp, 0, none⟩) (q + 1) cp) ∧ W.cell? ⟨w.heap.size, 10, none⟩ = some (.int .i64 b.n)) [13] (by kernel_rfl) ?_
    have hS0 : W5.drew.cell? ⟨S, 0, none⟩ = some (.slice (some ⟨gp, 0, none⟩) (q + 1) cp) ∧ W5.drew.cell? ⟨w.heap.size, 10, none⟩ = some (.int .i64 b.n) := ⟨H5.out.bld.blk.cell' 0 rfl, H5.out.n⟩
    refine take_P 0 (v := .pointer (some ⟨S, 0, none⟩)) rfl (by kernel_rfl) (by kernel_rfl) (by kernel_rfl) (fun _ _ _ h => h) rfl (fun W' => by go_simp) ?_
    refine take_P 1 (v := .pointer (some ⟨S, 0, none⟩)) rfl (by kernel_rfl) (by kernel_rfl) (by kernel_rfl) (fun _ _ _ h => h) rfl (fun W' => by go_simp) ?_
    refine take_P 2 (v := .pointer (some ⟨S, 0, none⟩)) rfl (by kernel_rfl) (by kernel_rfl) (by kernel_rfl) (fun _ _ _ h => h) rfl (fun W' => by go_simp) ?_
    refine take_P 3 (v := .pointer (some ⟨S, 0, none⟩)) rfl (by kernel_rfl) (by kernel_rfl) (by kernel_rfl) (fun _ _ _ h => h) rfl (fun W' => by go_simp) ?_
    refine take_L 4 (v := (.slice (some ⟨gp, 0, none⟩) (q + 1) cp)) rfl (by kernel_rfl) (by kernel_rfl) (by kernel_rfl) (by kernel_rfl) (fun _ _ _ h => h) rfl (fun W' hW' => by have e4 := hW'.1; have e5 := hW'.2; clear hW'; go_simp) hS0 ?_
    refine take_P 5 (v := .pointer (some ⟨w.heap.size, 10, none⟩)) rfl (by kernel_rfl) (by kernel_rfl) (by kernel_rfl) (fun _ _ _ h => h) rfl (fun W' => by go_simp) ?_
    refine take_L 6 (v := .int .i64 b.n) rfl (by kernel_rfl) (by kernel_rfl) (by kernel_rfl) (by kernel_rfl) (fun _ _ _ h => h) rfl (fun W' hW' => by have e4 := hW'.1; have e5 := hW'.2; clear hW'; go_simp) hS0 ?_
    refine take_P 7 (v := .int .i64 i) rfl (by kernel_rfl) (by kernel_rfl) (by kernel_rfl) (fun _ _ _ h => h) rfl (fun W' => by go_simp) ?_
    refine take_P 8 (v := .agg #[.int .i64 b.n, .int .i64 i, .int .i64 0]) rfl (by kernel_rfl) (by kernel_rfl) (by kernel_rfl) (fun _ _ _ h => h) rfl (fun W' => by go_simp) ?_
    refine one_L 9 (by kernel_rfl) rfl rfl fun K9 hK9 => ?_
    have HK9 := Lib.hid hK9
    clear hK9
    refine wp_prog1 (.tmp 79) (.int .i64 b.n) (.int .i64 i) (.int .i64 0) rfl (by go_simp) ?_
    have h6 := H5.out.drew.under ((Below.refl _ _).alloc (Nat.le_refl _) (.cells #[.int .i64 b.n, .int .i64 i, .int .i64 0] 55))
    refine HK9.out _ _ (fun _ _ => ⟨h6.bld.blk.cell' 0 rfl, h6.n⟩) ?_
    refine one_L 10 (by kernel_rfl) rfl rfl fun K10 hK10 => ?_
    have HK10 := Lib.hid hK10
    clear hK10
    refine wp_push (.tmp 75) (.tmp 80) 40 rfl base 55 (Value.agg #[.int .i64 0, .int .i64 0, .int .i64 0]) 3 24 Try.underlying40 infoProg (by kernel_rfl) (by decide) (by decide) (.slice (some ⟨gp, 0, none⟩) (q + 1) cp) s.progs.length (progC s.progs i) (by go_simp)
      h6.bld.progs W5.drew.heap.size [.int .i64 b.n, .int .i64 i, .int .i64 0] (by go_simp) (Blk.new W5.drew 55 _) rfl (by simp [Value.oneCell']) (by omega) h6.size fun g9 c9 w7 hp => ?_
    have hb7 := h6.bld.blk.grown hp.grown (own_ne h6.bld.progs h6.bld.blk (by decide))
    have hn7 := h6.blk.grown hp.grown (own_ne h6.bld.progs h6.blk (by decide))
    have hsz6 := h6.size
    have hsl7 := hp.grown.size
    have h8 : AddSt w base S w.heap.size b (pl i) (s.progs ++ [(b.n, i)]) 0 (s.mate ++ [-1]) s.op (numsOf s.progs ++ [b.n]) (labelsOf bs (lastFirst s.progs) i) (.slice (some ⟨g9, 0, none⟩) (s.progs.length + 1) c9) (.slice (some ⟨g, 0, none⟩) (s.mate.length + 1) c) (.slice lo 0 co) bn bl (w7.setCell ⟨S, 0, none⟩ (.slice (some ⟨g9, 0, none⟩) (s.progs.length + 1) c9)) :=
      ⟨h6.bld.pushProg hp, hn7.far (p := ⟨S, 0, none⟩) h6.two _, (h6.bel.trans (below_of_grown hp.grown hsz6 (fun k e => (h6.bld.progs.lt k e).1))).setCell h6.bld.far.1 _, by simp; omega⟩
    have H8 := Lib.hid h8
    have f7 := hb7.cell 0
    have z7 := hb7.frozen 0
    refine HK10.out _ _ (fun _ _ => ⟨hb7.cell' 0 rfl, hn7.cell' 10 rfl⟩) ?_
    rw [HQ.out] at H8
    clear hb7 hn7 hsl7 hsz6 h8 hp h6 hS0
    refine take_P 11 (v := .pointer (some ⟨S, 0, none⟩)) rfl (by kernel_rfl) (by kernel_rfl) (by kernel_rfl) (fun _ _ _ h => h) rfl (fun W' => by go_simp) ?_
    refine take_P 12 (v := .pointer (some ⟨S, 0, none⟩)) rfl (by kernel_rfl) (by kernel_rfl) (by kernel_rfl) (fun _ _ _ h => h) rfl (fun W' => by go_simp) ?_
    refine one_L 13 (by kernel_rfl) rfl rfl fun K13 hK13 => ?_
    have HK13 := Lib.hid hK13
    clear hK13
    go_simp
    refine HK13.out _ _ (fun h => absurd h (by decide)) ?_
    refine done_L (by kernel_rfl) ?_ _
    refine on_told (fun W => AddSt w base S w.heap.size b (pl i) (s.progs ++ [(b.n, i)]) 0 (s.mate ++ [-1]) s.op (numsOf s.progs ++ [b.n]) (labelsOf bs (lastFirst s.progs) i) (.slice (some ⟨g9, 0, none⟩) (q + 1 + 1) c9) (.slice (some ⟨g, 0, none⟩) (s.mate.length + 1) c) (.slice lo 0 co) bn bl W) H8.out fun W6 h6 => ?_
    clear H8 f7 z7 HK9 HK10 HK13 H5
    have H6 := Lib.hid h6
    have hS6 := h6.bld.blk.lt
    have c4 : (W6.alloc (.map #[] 0)).cell? ⟨S, 4, none⟩ = some (.map (some bl)) := (h6.bld.blk.alloc _).cell' 4 rfl
    have z4 : (W6.alloc (.map #[] 0)).frozen? ⟨S, 4, none⟩ = false := (h6.bld.blk.alloc _).frozen 4
    have c4' := h6.bld.blk.cell 4
    have z4' := h6.bld.blk.frozen 4
    have hn6 := h6.newLabs
    rw [World.setCell_alloc_past _ _ _ _ h6.bld.blk.lt] at hn6
    have HN := Lib.hid hn6
    clear hn6
    clear h6
    go_simp
    have hmm := @run_makeMap Try.prog 67 W6
    go_upto_region 12 with (fail)
    clear hmm
    refine on_told (fun W => AddSt w base S w.heap.size b (pl i) (s.progs ++ [(b.n, i)]) 0 (s.mate ++ [-1]) s.op (numsOf s.progs ++ [b.n]) [] (.slice (some ⟨g9, 0, none⟩) (q + 1 + 1) c9) (.slice (some ⟨g, 0, none⟩) (s.mate.length + 1) c) (.slice lo 0 co) bn W6.heap.size W) HN.out fun W2 h2 => ?_
    clear HN c4 z4 c4' z4' hS6 H6
    have H2 := Lib.hid h2
    have n0 := h2.kind
    have n1 := h2.label
    have n6 := h2.n
    clear h2
    have h3 : AddSt w base S w.heap.size b (pl i) (s.progs ++ [(b.n, i)]) 0 (s.mate ++ [-1]) s.op (numsOf s.progs ++ [b.n]) (labelsOf bs i (i + 1)) (.slice (some ⟨g9, 0, none⟩) (q + 1 + 1) c9) (.slice (some ⟨g, 0, none⟩) (s.mate.length + 1) c) (.slice lo 0 co) bn W6.heap.size W2 := by
      rw [HLABS.out]
      exact H2.out
    have H3 := Lib.hid h3
    clear h3 H2
    go_wp2_with fail
    go_ret2
    have hpne : s.progs ≠ [] := by
      obtain ⟨r, e, _, _⟩ := HOK.out.progs
      rw [e]
      exact List.cons_ne_nil _ _
    refine AddPost.ok HOKS.out H3.out.bel ?_ rfl
    rw [numsOf_snoc hpne, lastFirst_snoc]
    exact ⟨_, _, _, _, _, H3.out.bld⟩
set_option maxRecDepth 100000 in
set_option maxHeartbeats 4000000 in
theorem add_prog_new (bs : List BlkL) (a : Option Addr) (cap : Nat) (pl : Nat → Place) (base S i : Nat) (b : BlkL) (s : StL) (w : World) (hsrc : ∀ W, Below base w W → base ≤ W.heap.size → BlksAt W bs a cap pl) (hsz : base ≤ w.heap.size)
    (hb : bs[i]? = some b) (hvs : ∀ (j : Nat) (b : BlkL), bs[j]? = some b → validB b = true) (hok : StOK bs i s) (hlen : bs.length ≤ 2000) (hbld : BldSome base S s.progs s.mate s.op (numsOf s.progs) (labelsOf bs (lastFirst s.progs) i) w)
    (hk : b.kind = 6) (hm : s.op.length = 0) (hd : dupN b s = false) (hlab : 0 < b.label) :
    Calls Try.prog 39 #[.pointer (some ⟨S, 0, none⟩), .slice a bs.length cap, .int .i64 i] w (AddPost bs b i s base S w) := by
  have k4 : (b.kind == 4) = false := by simp; omega
  have k5 : (b.kind == 5) = false := by simp; omega
  have k6 : (b.kind == 6) = true := by simp; omega
  have hv := hvs i b hb
  have hnn := valid_prog hv hk
  have hdn := dupN_nums hok (b := b) hnn.1
  have NWF := Lib.hid (wf_small (x := b.n) (by omega) (by omega))
  have NKWF := Lib.hid (nums_wf hok)
  have NMEM := Lib.hid (show decide (b.n ∈ numsOf s.progs) = false by rw [← hdn]; exact hd)
  have l0 : decide (0 < b.label) = true := decide_eq_true hlab
  have LMEM := Lib.hid (show decide (b.label ∈ ([] : List Int)) = false from decide_eq_false (by simp))
  have hdl : dupL bs b i s = false := by
    unfold dupL progsB
    rw [if_pos hk, lastFirst_snoc, labelsOf_at]
    simp
  have HLABS := Lib.hid (show labelsOf bs i (i + 1) = [] ++ [b.label] by rw [labelsOf_succ hb (Nat.le_refl i), if_pos hlab, labelsOf_at])
  have LWF := Lib.hid (wf_small (x := b.label) (by omega) (by have := valid_label (hvs i b hb); omega))
  have LKWF := Lib.hid (show ∀ y ∈ ([] : List Int), (Lit.int .i64 y).wf = true from fun y hy => by cases hy)
  have HOKS := Lib.hid (show stepB bs b i s = .ok ⟨s.progs ++ [(b.n, i)], s.mate ++ [-1], s.op⟩ by
    unfold stepB
    rw [if_neg (by rintro ⟨_, h⟩; exact h (List.length_eq_zero_iff.1 hm)), if_neg (by rw [hd]; simp), hdl, if_neg (by decide), if_neg (by omega), if_neg (by omega), progsB, if_pos hk])
  clear hk hvs hnn hdn hd hlab hdl
  have hi : i < bs.length := (List.getElem?_eq_some_iff.1 hb).1
  have h0 := hsrc w (Below.refl _ _) hsz
  obtain ⟨hl, sb, so, rfl, hsb, hcc⟩ := h0.tab i hi
  have i0 : (0 : Int) ≤ (i : Int) := by omega
  have i1 : (i : Int) < (bs.length : Int) := by omega
  obtain ⟨vp, vm, vo, bn, bl, hbld⟩ := hbld
  have HOK := Lib.hid hok
  have HSRC := Lib.hid hsrc
  have HB := Lib.hid hb
  have HV := Lib.hid hv
  have hop := hok.few
  have hmt := hok.mate
  obtain ⟨lo, co, rfl⟩ := own_form hbld.op
  rw [hm] at hbld
  clear hm
  have HBLD := Lib.hid hbld
  have HMT := Lib.hid hmt
  have HSZ := Lib.hid hsz
  have hrow0 : ∀ j v, (blkC b (pl i))[j]? = some v → w.cell? ⟨sb, so + i * 11 + j, none⟩ = some v := fun j v hv => by
    rw [hcc j (by have := (List.getElem?_eq_some_iff.1 hv).1; simpa [blkC] using this), blksC_at HB.out]; exact hv
  have HR0 := Lib.hid hrow0
  clear hbld hok hsrc hb hv h0 hl hcc hmt hsz hrow0 hsb
  go_enter Try.func39, Try.ntmps39
  go_wp2_with fail
  refine region_L (fun W => (∀ j v, (blkC b (pl i))[j]? = some v → W.cell? ⟨sb, so + i * 11 + j, none⟩ = some v) ∧ W.cell? ⟨S, 2, none⟩ = some (.slice lo 0 co)) [] (by kernel_rfl) ?_
  have hS0 : (∀ j v, (blkC b (pl i))[j]? = some v → w.drew.cell? ⟨sb, so + i * 11 + j, none⟩ = some v) ∧ w.drew.cell? ⟨S, 2, none⟩ = some (.slice lo 0 co) := ⟨HR0.out, HBLD.out.blk.cell' 2 rfl⟩
  refine take_P 0 (v := .slice (some ⟨sb, so, none⟩) bs.length cap) rfl (by kernel_rfl) (by kernel_rfl) (by kernel_rfl) (fun _ _ _ h => h) rfl (fun W' => by go_simp) ?_
  refine take_P 1 (v := .int .i64 i) rfl (by kernel_rfl) (by kernel_rfl) (by kernel_rfl) (fun _ _ _ h => h) rfl (fun W' => by go_simp) ?_
  refine take_P 2 (v := .pointer (some ⟨sb, so + i * 11, none⟩)) rfl (by kernel_rfl) (by kernel_rfl) (by kernel_rfl) (fun _ _ _ h => h) rfl (fun W' => by go_simp) ?_
  refine take_L 3 (v := .agg (blkC b (pl i)).toArray) rfl (by kernel_rfl) (by kernel_rfl) (by kernel_rfl) (by kernel_rfl) (fun _ _ _ h => h) rfl (fun W' hW' => by exact exec_load 37 (.tmp 15) rfl ⟨sb, so + i * 11, none⟩ _ (by go_simp) (run_loadAt_mid W' sb (so + i * 11) 37 (blkC b (pl i)) _ hW'.1 Try.underlying37 rfl (by kernel_rfl))) hS0 ?_
  refine take_P 4 (v := .pointer (some ⟨S, 0, none⟩)) rfl (by kernel_rfl) (by kernel_rfl) (by kernel_rfl) (fun _ _ _ h => h) rfl (fun W' => by go_simp) ?_
  refine take_P 5 (v := .pointer (some ⟨S, 0, none⟩)) rfl (by kernel_rfl) (by kernel_rfl) (by kernel_rfl) (fun _ _ _ h => h) rfl (fun W' => by go_simp) ?_
  refine take_P 6 (v := .pointer (some ⟨S, 2, none⟩)) rfl (by kernel_rfl) (by kernel_rfl) (by kernel_rfl) (fun _ _ _ h => h) rfl (fun W' => by go_simp) ?_
  refine take_L 7 (v := .slice lo 0 co) rfl (by kernel_rfl) (by kernel_rfl) (by kernel_rfl) (by kernel_rfl) (fun _ _ _ h => h) rfl (fun W' hW' => by have e2 := hW'.2; clear hW'; go_simp) hS0 ?_
  refine take_P 8 (v := .int .i64 0) rfl (by kernel_rfl) (by kernel_rfl) (by kernel_rfl) (fun _ _ _ h => h) rfl (fun W' => by go_simp) ?_
  have hkeep : ∀ o : Obj, (∀ j v, (blkC b (pl i))[j]? = some v → (w.drew.alloc o).cell? ⟨sb, so + i * 11 + j, none⟩ = some v) ∧ (w.drew.alloc o).cell? ⟨S, 2, none⟩ = some (.slice lo 0 co) := fun o => by
    have hb1 : Below w.heap.size w (w.drew.alloc o) := ((Below.refl _ _).drew).alloc (Nat.le_refl _) o
    exact ⟨fun j v hv => (hb1.cell (p := ⟨sb, so + i * 11 + j, none⟩) (block_lt_of_cell (HR0.out j v hv))).trans (HR0.out j v hv), (HBLD.out.blk.below hb1 HBLD.out.blk.lt).cell' 2 rfl⟩
  refine one_L 9 (by kernel_rfl) rfl rfl fun K9 hK9 => ?_
  have HK9 := Lib.hid hK9
  clear hK9
  go_simp
  refine HK9.out _ _ (fun _ _ => hkeep _) ?_
  refine one_L 10 (by kernel_rfl) rfl rfl fun K10 hK10 => ?_
  have HK10 := Lib.hid hK10
  clear hK10
  refine wp_store_new (w := w.drew) 37 (.tmp 8) (.tmp 16) rfl #[.int .i64 0, .int .i64 0, .bool false, .slice none 0 0, .int .i64 0, .int .i64 0, .slice none 0 0, .int .i64 0, .int .i64 0, .slice none 0 0, .int .i64 0] (blkC b (pl i)).toArray rfl rfl (by kernel_rfl) rfl (all_oneCell_toArray blkC_one) ?_
  refine HK10.out _ _ (fun _ _ => hkeep _) ?_
  refine one_L 11 (by kernel_rfl) rfl rfl fun K11 hK11 => ?_
  have HK11 := Lib.hid hK11
  clear hK11
  go_simp
  refine HK11.out _ _ (fun _ _ => hkeep _) ?_
  refine done_L (by kernel_rfl) ?_ _
  have hst : AddSt w base S w.heap.size b (pl i) s.progs 0 s.mate s.op (numsOf s.progs) (labelsOf bs (lastFirst s.progs) i) vp vm (.slice lo 0 co) bn bl (w.drew.alloc (.cells (blkC b (pl i)).toArray 37)) := by
    have hb1 : Below w.heap.size w (w.drew.alloc (.cells (blkC b (pl i)).toArray 37)) := ((Below.refl _ _).drew).alloc (Nat.le_refl _) _
    refine ⟨HBLD.out.under hb1, Blk.new w.drew 37 _, hb1.mono HSZ.out, by have := HSZ.out; simp; omega⟩
  refine on_told (fun W => AddSt w base S w.heap.size b (pl i) s.progs 0 s.mate s.op (numsOf s.progs) (labelsOf bs (lastFirst s.progs) i) vp vm (.slice lo 0 co) bn bl W) hst fun W1 h1 => ?_
  clear hst hkeep hS0 HK9 HK10 HK11
  have H1 := Lib.hid h1
  have f1 := h1.bld.blk.cell 1
  have HM1 := Lib.hid (h1.bld.mate.alloc (.cells #[.int .i64 (-1)] 3))
  have HB1 := Lib.hid (Blk.new W1 3 #[.int .i64 (-1)])
  have HL1 := Lib.hid (show base ≤ (W1.alloc (.cells #[.int .i64 (-1)] 3)).heap.size by have := h1.size; simp; omega)
  clear h1
  go_simp
  go_wp2_with (at_builtin; refine wpList_push rfl (.tmp 26) (.tmp 27) 23 rfl base 3 (.int .i64 0) 1 8 Try.underlying23 infoInt rfl (by decide) (by decide) vm s.mate.length (intC s.mate) rfl HM1.out W1.heap.size [.int .i64 (-1)] rfl HB1.out rfl (by simp [Value.oneCell']) ?c1 HL1.out ?c2)
  case c1 => have := HMT.out; omega
  case c2 =>
    intro g c w2 hp
    have h2 := H1.out
    have hb1 : Below W1.heap.size W1 (W1.alloc (.cells #[.int .i64 (-1)] 3)) := (Below.refl _ _).alloc (Nat.le_refl _) _
    have hbl2 := (h2.bld.under hb1).pushMate hp
    have hS2 : Blk w2 S 69 _ := (h2.bld.blk.alloc _).grown hp.grown (own_ne h2.bld.mate h2.bld.blk (by decide))
    have hN2 : Blk w2 w.heap.size 37 (blkC b (pl i)).toArray := (h2.blk.alloc _).grown hp.grown (own_ne h2.bld.mate h2.blk (by decide))
    have hsz2 := h2.size
    have hsl2 := hp.grown.size
    have hst : AddSt w base S w.heap.size b (pl i) s.progs 0 (s.mate ++ [-1]) s.op (numsOf s.progs) (labelsOf bs (lastFirst s.progs) i) vp (.slice (some ⟨g, 0, none⟩) (s.mate.length + 1) c) (.slice lo 0 co) bn bl (w2.setCell ⟨S, 1, none⟩ (.slice (some ⟨g, 0, none⟩) (s.mate.length + 1) c)) := by
      refine ⟨hbl2, hN2.far (p := ⟨S, 1, none⟩) (fun e => ?_) _, ?_, by simp at hsl2 ⊢; omega⟩
      · have e' : w.heap.size = S := e
        rw [e'] at hN2
        unfold Blk at hN2 hS2
        rw [hS2] at hN2
        injection hN2 with hN2
        injection hN2 with _ hN2
        exact absurd hN2 (by decide)
      · exact ((h2.bel.alloc hsz2 _).trans (below_of_grown hp.grown (by simp; omega) (fun k e => (h2.bld.mate.lt k e).1))).setCell h2.bld.far.1 _
    have HST := Lib.hid hst
    have t1 := hS2.cell 1
    have z1 := hS2.frozen 1
    clear hst hp hS2 hN2 hbl2 h2 hb1 hsl2
    go_upto_region 3 with (fail)
    refine on_told (fun W => AddSt w base S w.heap.size b (pl i) s.progs 0 (s.mate ++ [-1]) s.op (numsOf s.progs) (labelsOf bs (lastFirst s.progs) i) vp (.slice (some ⟨g, 0, none⟩) (s.mate.length + 1) c) (.slice lo 0 co) bn bl W) HST.out fun W2 h2 => ?_
    clear HST t1 z1 HM1 HB1 HL1 H1 f1
    have H2 := Lib.hid h2
    have n0 := h2.kind
    have n1 := h2.label
    have n6 := h2.n
    clear h2
    go_wp2_with fail
    refine region_L (fun W => AddSt w base S w.heap.size b (pl i) s.progs 0 (s.mate ++ [-1]) s.op (numsOf s.progs) (labelsOf bs (lastFirst s.progs) i) vp (.slice (some ⟨g, 0, none⟩) (s.mate.length + 1) c) (.slice lo 0 co) bn bl W) [] (by kernel_rfl) ?_
    have hS0 := H2.out.drew
    refine take_P 0 (v := .pointer (some ⟨S, 0, none⟩)) rfl (by kernel_rfl) (by kernel_rfl) (by kernel_rfl) (fun _ _ _ h => h) rfl (fun W' => by go_simp) ?_
    refine take_P 1 (v := .pointer (some ⟨S, 0, none⟩)) rfl (by kernel_rfl) (by kernel_rfl) (by kernel_rfl) (fun _ _ _ h => h) rfl (fun W' => by go_simp) ?_
    refine take_P 2 (v := .pointer (some ⟨S, 3, none⟩)) rfl (by kernel_rfl) (by kernel_rfl) (by kernel_rfl) (fun _ _ _ h => h) rfl (fun W' => by go_simp) ?_
    refine take_L 3 (v := .map (some bn)) rfl (by kernel_rfl) (by kernel_rfl) (by kernel_rfl) (by kernel_rfl) (fun _ _ _ h => h) rfl (fun W' hW' => by have e4 := hW'.bld.blk.cell' 3 rfl; clear hW'; go_simp) hS0 ?_
    refine take_P 4 (v := .pointer (some ⟨w.heap.size, 10, none⟩)) rfl (by kernel_rfl) (by kernel_rfl) (by kernel_rfl) (fun _ _ _ h => h) rfl (fun W' => by go_simp) ?_
    refine take_L 5 (v := .int .i64 b.n) rfl (by kernel_rfl) (by kernel_rfl) (by kernel_rfl) (by kernel_rfl) (fun _ _ _ h => h) rfl (fun W' hW' => by have e4 := hW'.n; clear hW'; go_simp) hS0 ?_
    refine take_L 6 (v := .bool false) rfl (by kernel_rfl) (by kernel_rfl) (by kernel_rfl) (by kernel_rfl) (fun _ _ _ h => h) rfl (fun W' hW' => by exact exec_lookup 67 (.tmp 47) (.tmp 49) rfl (.map (some bn)) (.int .i64 b.n) (.bool false) (by go_simp) (by go_simp) (by have h9 := hW'.bld.nums.look Try.underlying3 Try.underlying67 (zero_bool W') NWF.out NKWF.out; rw [NMEM.out] at h9; exact h9)) hS0 ?_
    refine done_L (by kernel_rfl) ?_ _
    refine on_told (fun W => AddSt w base S w.heap.size b (pl i) s.progs 0 (s.mate ++ [-1]) s.op (numsOf s.progs) (labelsOf bs (lastFirst s.progs) i) vp (.slice (some ⟨g, 0, none⟩) (s.mate.length + 1) c) (.slice lo 0 co) bn bl W) hS0 fun W3 h3 => ?_
    clear hS0 H2 n0 n1 n6
    have H2 := Lib.hid h3
    have n0 := h3.kind
    have n1 := h3.label
    have n6 := h3.n
    clear h3
    go_simp
    go_wp2_with fail
    refine region_L (fun W => AddSt w base S w.heap.size b (pl i) s.progs 0 (s.mate ++ [-1]) s.op (numsOf s.progs) (labelsOf bs (lastFirst s.progs) i) vp (.slice (some ⟨g, 0, none⟩) (s.mate.length + 1) c) (.slice lo 0 co) bn bl W) [6] (by kernel_rfl) ?_
    have hS0 := H2.out.drew
    refine take_P 0 (v := .pointer (some ⟨S, 0, none⟩)) rfl (by kernel_rfl) (by kernel_rfl) (by kernel_rfl) (fun _ _ _ h => h) rfl (fun W' => by go_simp) ?_
    refine take_P 1 (v := .pointer (some ⟨S, 0, none⟩)) rfl (by kernel_rfl) (by kernel_rfl) (by kernel_rfl) (fun _ _ _ h => h) rfl (fun W' => by go_simp) ?_
    refine take_P 2 (v := .pointer (some ⟨S, 3, none⟩)) rfl (by kernel_rfl) (by kernel_rfl) (by kernel_rfl) (fun _ _ _ h => h) rfl (fun W' => by go_simp) ?_
    refine take_L 3 (v := .map (some bn)) rfl (by kernel_rfl) (by kernel_rfl) (by kernel_rfl) (by kernel_rfl) (fun _ _ _ h => h) rfl (fun W' hW' => by have e4 := hW'.bld.blk.cell' 3 rfl; clear hW'; go_simp) hS0 ?_
    refine take_P 4 (v := .pointer (some ⟨w.heap.size, 10, none⟩)) rfl (by kernel_rfl) (by kernel_rfl) (by kernel_rfl) (fun _ _ _ h => h) rfl (fun W' => by go_simp) ?_
    refine take_L 5 (v := .int .i64 b.n) rfl (by kernel_rfl) (by kernel_rfl) (by kernel_rfl) (by kernel_rfl) (fun _ _ _ h => h) rfl (fun W' hW' => by have e4 := hW'.n; clear hW'; go_simp) hS0 ?_
    obtain ⟨w9, hrun, hset, hgr⟩ := hS0.bld.nums.store (P := Try.prog) Try.underlying3 Try.underlying67 NWF.out NKWF.out (of_decide_eq_false NMEM.out)
    have hst9 := add_num hS0 hset hgr
    refine one_L 6 (by kernel_rfl) rfl rfl fun K6 hK6 => ?_
    have HK6 := Lib.hid hK6
    clear hK6
    go_simp
    refine HK6.out _ _ (fun h => absurd h (by decide)) ?_
    refine done_L (by kernel_rfl) ?_ _
    refine on_told (fun W => AddSt w base S w.heap.size b (pl i) s.progs 0 (s.mate ++ [-1]) s.op (numsOf s.progs ++ [b.n]) (labelsOf bs (lastFirst s.progs) i) vp (.slice (some ⟨g, 0, none⟩) (s.mate.length + 1) c) (.slice lo 0 co) bn bl W) hst9 fun W4 h4 => ?_
    clear hS0 H2 n0 n1 n6 hst9 hrun hset hgr HK6
    obtain ⟨q, hq⟩ : ∃ q, s.progs.length = q + 1 := by
      obtain ⟨r, e, _, _⟩ := HOK.out.progs
      exact ⟨r.length, by rw [e]; rfl⟩
    have hqi : q ≤ i := by
      obtain ⟨r, e, h1, _⟩ := HOK.out.progs
      rw [e] at hq
      simp at hq
      omega
    obtain ⟨gp, cp, rfl, hgp1, hgp2, hcel, hfro⟩ := h4.bld.progAt (k := q) (by omega)
    have HE := Lib.hid (h4.drew.endSet (by intro e; rw [e] at hq; cases hq) rfl i)
    have HQ := Lib.hid hq
    have H4 := Lib.hid h4
    have c9 : W4.drew.cell? ⟨gp, q * 3 + 2, none⟩ = some (.int .i64 0) := by
      have := hcel 2 (by decide)
      have e2 : ¬ q + 1 < s.progs.length := by omega
      simp only [progC, e2, if_false] at this
      exact this
    have z9 : W4.drew.frozen? ⟨gp, q * 3 + 2, none⟩ = false := hfro _
    have hvq := h4.bld.blk
    rw [hq] at hvq
    have HVQ := Lib.hid hvq
    clear h4 hcel hfro hvq
    go_simp
    go_wp2_with fail
    refine region_L (fun W => W.cell? ⟨S, 0, none⟩ = some (.slice (some ⟨gp, 0, none⟩) (q + 1) cp)) [13] (by kernel_rfl) ?_
    have hS0 : W4.drew.cell? ⟨S, 0, none⟩ = some (.slice (some ⟨gp, 0, none⟩) (q + 1) cp) := HVQ.out.cell' 0 rfl
    have q0 : (0 : Int) ≤ (q : Int) := by omega
    have q1 : (q : Int) < (q : Int) + 1 := by omega
    refine take_P 0 (v := .pointer (some ⟨S, 0, none⟩)) rfl (by kernel_rfl) (by kernel_rfl) (by kernel_rfl) (fun _ _ _ h => h) rfl (fun W' => by go_simp) ?_
    refine take_P 1 (v := .pointer (some ⟨S, 0, none⟩)) rfl (by kernel_rfl) (by kernel_rfl) (by kernel_rfl) (fun _ _ _ h => h) rfl (fun W' => by go_simp) ?_
    refine take_P 2 (v := .pointer (some ⟨S, 0, none⟩)) rfl (by kernel_rfl) (by kernel_rfl) (by kernel_rfl) (fun _ _ _ h => h) rfl (fun W' => by go_simp) ?_
    refine take_L 3 (v := (.slice (some ⟨gp, 0, none⟩) (q + 1) cp)) rfl (by kernel_rfl) (by kernel_rfl) (by kernel_rfl) (by kernel_rfl) (fun _ _ _ h => h) rfl (fun W' hW' => by have e4 := hW'; clear hW'; go_simp) hS0 ?_
    refine take_P 4 (v := .pointer (some ⟨S, 0, none⟩)) rfl (by kernel_rfl) (by kernel_rfl) (by kernel_rfl) (fun _ _ _ h => h) rfl (fun W' => by go_simp) ?_
    refine take_P 5 (v := .pointer (some ⟨S, 0, none⟩)) rfl (by kernel_rfl) (by kernel_rfl) (by kernel_rfl) (fun _ _ _ h => h) rfl (fun W' => by go_simp) ?_
    refine take_P 6 (v := .pointer (some ⟨S, 0, none⟩)) rfl (by kernel_rfl) (by kernel_rfl) (by kernel_rfl) (fun _ _ _ h => h) rfl (fun W' => by go_simp) ?_
    refine take_L 7 (v := (.slice (some ⟨gp, 0, none⟩) (q + 1) cp)) rfl (by kernel_rfl) (by kernel_rfl) (by kernel_rfl) (by kernel_rfl) (fun _ _ _ h => h) rfl (fun W' hW' => by have e4 := hW'; clear hW'; go_simp) hS0 ?_
    refine take_P 8 (v := .int .i64 (q + 1)) rfl (by kernel_rfl) (by kernel_rfl) (by kernel_rfl) (fun _ _ _ h => h) rfl (fun W' => by go_simp) ?_
    refine take_P 9 (v := .int .i64 q) rfl (by kernel_rfl) (by kernel_rfl) (by kernel_rfl) (fun _ _ _ h => h) rfl (fun W' => by have e4 : IntKind.i64.wrap (q : Int) = q := IntWalk.i64_in _ (by omega); go_simp) ?_
    refine take_P 10 (v := .int .i64 i) rfl (by kernel_rfl) (by kernel_rfl) (by kernel_rfl) (fun _ _ _ h => h) rfl (fun W' => by go_simp) ?_
    refine take_P 11 (v := .pointer (some ⟨gp, q * 3, none⟩)) rfl (by kernel_rfl) (by kernel_rfl) (by kernel_rfl) (fun _ _ _ h => h) rfl (fun W' => by go_simp) ?_
    refine take_P 12 (v := .pointer (some ⟨gp, q * 3 + 2, none⟩)) rfl (by kernel_rfl) (by kernel_rfl) (by kernel_rfl) (fun _ _ _ h => h) rfl (fun W' => by go_simp) ?_
    refine one_L 13 (by kernel_rfl) rfl rfl fun K13 hK13 => ?_
    have HK13 := Lib.hid hK13
    clear hK13
    go_simp
    refine HK13.out _ _ (fun h => absurd h (by decide)) ?_
    refine done_L (by kernel_rfl) ?_ _
    have hst9 := HE.out
    rw [HQ.out, Nat.add_sub_cancel] at hst9
    refine on_told (fun W => AddSt w base S w.heap.size b (pl i) s.progs i (s.mate ++ [-1]) s.op (numsOf s.progs ++ [b.n]) (labelsOf bs (lastFirst s.progs) i) (.slice (some ⟨gp, 0, none⟩) (q + 1) cp) (.slice (some ⟨g, 0, none⟩) (s.mate.length + 1) c) (.slice lo 0 co) bn bl W) hst9 fun W5 h5 => ?_
    clear hS0 hst9 HE H4 c9 z9 HVQ HK13
    have H5 := Lib.hid h5
    clear h5
    go_simp
    go_wp2_with fail
    refine region_L (fun W => W.cell? ⟨S, 0, none⟩ = some (.slice (some ⟨gp, 0, none⟩) (q + 1) cp) ∧ W.cell? ⟨w.heap.size, 10, none⟩ = some (.int .i64 b.n)) [13] (by kernel_rfl) ?_
    have hS0 : W5.drew.cell? ⟨S, 0, none⟩ = some (.slice (some ⟨gp, 0, none⟩) (q + 1) cp) ∧ W5.drew.cell? ⟨w.heap.size, 10, none⟩ = some (.int .i64 b.n) := ⟨H5.out.bld.blk.cell' 0 rfl, H5.out.n⟩
    refine take_P 0 (v := .pointer (some ⟨S, 0, none⟩)) rfl (by kernel_rfl) (by kernel_rfl) (by kernel_rfl) (fun _ _ _ h => h) rfl (fun W' => by go_simp) ?_
    refine take_P 1 (v := .pointer (some ⟨S, 0, none⟩)) rfl (by kernel_rfl) (by kernel_rfl) (by kernel_rfl) (fun _ _ _ h => h) rfl (fun W' => by go_simp) ?_
    refine take_P 2 (v := .pointer (some ⟨S, 0, none⟩)) rfl (by kernel_rfl) (by kernel_rfl) (by kernel_rfl) (fun _ _ _ h => h) rfl (fun W' => by go_simp) ?_
    refine take_P 3 (v := .pointer (some ⟨S, 0, none⟩)) rfl (by kernel_rfl) (by kernel_rfl) (by kernel_rfl) (fun _ _ _ h => h) rfl (fun W' => by go_simp) ?_
    refine take_L 4 (v := (.slice (some ⟨gp, 0, none⟩) (q + 1) cp)) rfl (by kernel_rfl) (by kernel_rfl) (by kernel_rfl) (by kernel_rfl) (fun _ _ _ h => h) rfl (fun W' hW' => by have e4 := hW'.1; have e5 := hW'.2; clear hW'; go_simp) hS0 ?_
    refine take_P 5 (v := .pointer (some ⟨w.heap.size, 10, none⟩)) rfl (by kernel_rfl) (by kernel_rfl) (by kernel_rfl) (fun _ _ _ h => h) rfl (fun W' => by go_simp) ?_
    refine take_L 6 (v := .int .i64 b.n) rfl (by kernel_rfl) (by kernel_rfl) (by kernel_rfl) (by kernel_rfl) (fun _ _ _ h => h) rfl (fun W' hW' => by have e4 := hW'.1; have e5 := hW'.2; clear hW'; go_simp) hS0 ?_
    refine take_P 7 (v := .int .i64 i) rfl (by kernel_rfl) (by kernel_rfl) (by kernel_rfl) (fun _ _ _ h => h) rfl (fun W' => by go_simp) ?_
    refine take_P 8 (v := .agg #[.int .i64 b.n, .int .i64 i, .int .i64 0]) rfl (by kernel_rfl) (by kernel_rfl) (by kernel_rfl) (fun _ _ _ h => h) rfl (fun W' => by go_simp) ?_
    refine one_L 9 (by kernel_rfl) rfl rfl fun K9 hK9 => ?_
    have HK9 := Lib.hid hK9
    clear hK9
    refine wp_prog1 (.tmp 79) (.int .i64 b.n) (.int .i64 i) (.int .i64 0) rfl (by go_simp) ?_
    have h6 := H5.out.drew.under ((Below.refl _ _).alloc (Nat.le_refl _) (.cells #[.int .i64 b.n, .int .i64 i, .int .i64 0] 55))
    refine HK9.out _ _ (fun _ _ => ⟨h6.bld.blk.cell' 0 rfl, h6.n⟩) ?_
    refine one_L 10 (by kernel_rfl) rfl rfl fun K10 hK10 => ?_
    have HK10 := Lib.hid hK10
    clear hK10
    refine wp_push (.tmp 75) (.tmp 80) 40 rfl base 55 (Value.agg #[.int .i64 0, .int .i64 0, .int .i64 0]) 3 24 Try.underlying40 infoProg (by kernel_rfl) (by decide) (by decide) (.slice (some ⟨gp, 0, none⟩) (q + 1) cp) s.progs.length (progC s.progs i) (by go_simp)
      h6.bld.progs W5.drew.heap.size [.int .i64 b.n, .int .i64 i, .int .i64 0] (by go_simp) (Blk.new W5.drew 55 _) rfl (by simp [Value.oneCell']) (by omega) h6.size fun g9 c9 w7 hp => ?_
    have hb7 := h6.bld.blk.grown hp.grown (own_ne h6.bld.progs h6.bld.blk (by decide))
    have hn7 := h6.blk.grown hp.grown (own_ne h6.bld.progs h6.blk (by decide))
    have hsz6 := h6.size
    have hsl7 := hp.grown.size
    have h8 : AddSt w base S w.heap.size b (pl i) (s.progs ++ [(b.n, i)]) 0 (s.mate ++ [-1]) s.op (numsOf s.progs ++ [b.n]) (labelsOf bs (lastFirst s.progs) i) (.slice (some ⟨g9, 0, none⟩) (s.progs.length + 1) c9) (.slice (some ⟨g, 0, none⟩) (s.mate.length + 1) c) (.slice lo 0 co) bn bl (w7.setCell ⟨S, 0, none⟩ (.slice (some ⟨g9, 0, none⟩) (s.progs.length + 1) c9)) :=
      ⟨h6.bld.pushProg hp, hn7.far (p := ⟨S, 0, none⟩) h6.two _, (h6.bel.trans (below_of_grown hp.grown hsz6 (fun k e => (h6.bld.progs.lt k e).1))).setCell h6.bld.far.1 _, by simp; omega⟩
    have H8 := Lib.hid h8
    have f7 := hb7.cell 0
    have z7 := hb7.frozen 0
    refine HK10.out _ _ (fun _ _ => ⟨hb7.cell' 0 rfl, hn7.cell' 10 rfl⟩) ?_
    rw [HQ.out] at H8
    clear hb7 hn7 hsl7 hsz6 h8 hp h6 hS0
    refine take_P 11 (v := .pointer (some ⟨S, 0, none⟩)) rfl (by kernel_rfl) (by kernel_rfl) (by kernel_rfl) (fun _ _ _ h => h) rfl (fun W' => by go_simp) ?_
    refine take_P 12 (v := .pointer (some ⟨S, 0, none⟩)) rfl (by kernel_rfl) (by kernel_rfl) (by kernel_rfl) (fun _ _ _ h => h) rfl (fun W' => by go_simp) ?_
    refine one_L 13 (by kernel_rfl) rfl rfl fun K13 hK13 => ?_
    have HK13 := Lib.hid hK13
    clear hK13
    go_simp
    refine HK13.out _ _ (fun h => absurd h (by decide)) ?_
    refine done_L (by kernel_rfl) ?_ _
    refine on_told (fun W => AddSt w base S w.heap.size b (pl i) (s.progs ++ [(b.n, i)]) 0 (s.mate ++ [-1]) s.op (numsOf s.progs ++ [b.n]) (labelsOf bs (lastFirst s.progs) i) (.slice (some ⟨g9, 0, none⟩) (q + 1 + 1) c9) (.slice (some ⟨g, 0, none⟩) (s.mate.length + 1) c) (.slice lo 0 co) bn bl W) H8.out fun W6 h6 => ?_
    clear H8 f7 z7 HK9 HK10 HK13 H5
    have H6 := Lib.hid h6
    have hS6 := h6.bld.blk.lt
    have c4 : (W6.alloc (.map #[] 0)).cell? ⟨S, 4, none⟩ = some (.map (some bl)) := (h6.bld.blk.alloc _).cell' 4 rfl
    have z4 : (W6.alloc (.map #[] 0)).frozen? ⟨S, 4, none⟩ = false := (h6.bld.blk.alloc _).frozen 4
    have c4' := h6.bld.blk.cell 4
    have z4' := h6.bld.blk.frozen 4
    have hn6 := h6.newLabs
    rw [World.setCell_alloc_past _ _ _ _ h6.bld.blk.lt] at hn6
    have HN := Lib.hid hn6
    clear hn6
    clear h6
    go_simp
    have hmm := @run_makeMap Try.prog 67 W6
    go_upto_region 12 with (fail)
    clear hmm
    refine on_told (fun W => AddSt w base S w.heap.size b (pl i) (s.progs ++ [(b.n, i)]) 0 (s.mate ++ [-1]) s.op (numsOf s.progs ++ [b.n]) [] (.slice (some ⟨g9, 0, none⟩) (q + 1 + 1) c9) (.slice (some ⟨g, 0, none⟩) (s.mate.length + 1) c) (.slice lo 0 co) bn W6.heap.size W) HN.out fun W2 h2 => ?_
    clear HN c4 z4 c4' z4' hS6 H6
    have H2 := Lib.hid h2
    have n0 := h2.kind
    have n1 := h2.label
    have n6 := h2.n
    clear h2
    go_wp2_with fail
    refine region_L (fun W => AddSt w base S w.heap.size b (pl i) (s.progs ++ [(b.n, i)]) 0 (s.mate ++ [-1]) s.op (numsOf s.progs ++ [b.n]) [] (.slice (some ⟨g9, 0, none⟩) (q + 1 + 1) c9) (.slice (some ⟨g, 0, none⟩) (s.mate.length + 1) c) (.slice lo 0 co) bn W6.heap.size W) [] (by kernel_rfl) ?_
    have hS0 := H2.out.drew
    refine take_P 0 (v := .pointer (some ⟨S, 0, none⟩)) rfl (by kernel_rfl) (by kernel_rfl) (by kernel_rfl) (fun _ _ _ h => h) rfl (fun W' => by go_simp) ?_
    refine take_P 1 (v := .pointer (some ⟨S, 0, none⟩)) rfl (by kernel_rfl) (by kernel_rfl) (by kernel_rfl) (fun _ _ _ h => h) rfl (fun W' => by go_simp) ?_
    refine take_P 2 (v := .pointer (some ⟨S, 4, none⟩)) rfl (by kernel_rfl) (by kernel_rfl) (by kernel_rfl) (fun _ _ _ h => h) rfl (fun W' => by go_simp) ?_
    refine take_L 3 (v := .map (some W6.heap.size)) rfl (by kernel_rfl) (by kernel_rfl) (by kernel_rfl) (by kernel_rfl) (fun _ _ _ h => h) rfl (fun W' hW' => by have e4 := hW'.bld.blk.cell' 4 rfl; clear hW'; go_simp) hS0 ?_
    refine take_P 4 (v := .pointer (some ⟨w.heap.size, 1, none⟩)) rfl (by kernel_rfl) (by kernel_rfl) (by kernel_rfl) (fun _ _ _ h => h) rfl (fun W' => by go_simp) ?_
    refine take_L 5 (v := .int .i64 b.label) rfl (by kernel_rfl) (by kernel_rfl) (by kernel_rfl) (by kernel_rfl) (fun _ _ _ h => h) rfl (fun W' hW' => by have e4 := hW'.label; clear hW'; go_simp) hS0 ?_
    refine take_L 6 (v := .bool false) rfl (by kernel_rfl) (by kernel_rfl) (by kernel_rfl) (by kernel_rfl) (fun _ _ _ h => h) rfl (fun W' hW' => by exact exec_lookup 67 (.tmp 94) (.tmp 96) rfl (.map (some W6.heap.size)) (.int .i64 b.label) (.bool false) (by go_simp) (by go_simp) (by have h9 := hW'.bld.labs.look Try.underlying3 Try.underlying67 (zero_bool W') LWF.out LKWF.out; rw [LMEM.out] at h9; exact h9)) hS0 ?_
    refine done_L (by kernel_rfl) ?_ _
    refine on_told (fun W => AddSt w base S w.heap.size b (pl i) (s.progs ++ [(b.n, i)]) 0 (s.mate ++ [-1]) s.op (numsOf s.progs ++ [b.n]) [] (.slice (some ⟨g9, 0, none⟩) (q + 1 + 1) c9) (.slice (some ⟨g, 0, none⟩) (s.mate.length + 1) c) (.slice lo 0 co) bn W6.heap.size W) hS0 fun W3 h3 => ?_
    clear hS0 H2 n0 n1 n6
    have H2 := Lib.hid h3
    have n0 := h3.kind
    have n1 := h3.label
    have n6 := h3.n
    clear h3
    go_simp
    go_wp2_with fail
    refine region_L (fun W => AddSt w base S w.heap.size b (pl i) (s.progs ++ [(b.n, i)]) 0 (s.mate ++ [-1]) s.op (numsOf s.progs ++ [b.n]) [] (.slice (some ⟨g9, 0, none⟩) (q + 1 + 1) c9) (.slice (some ⟨g, 0, none⟩) (s.mate.length + 1) c) (.slice lo 0 co) bn W6.heap.size W) [6] (by kernel_rfl) ?_
    have hS0 := H2.out.drew
    refine take_P 0 (v := .pointer (some ⟨S, 0, none⟩)) rfl (by kernel_rfl) (by kernel_rfl) (by kernel_rfl) (fun _ _ _ h => h) rfl (fun W' => by go_simp) ?_
    refine take_P 1 (v := .pointer (some ⟨S, 0, none⟩)) rfl (by kernel_rfl) (by kernel_rfl) (by kernel_rfl) (fun _ _ _ h => h) rfl (fun W' => by go_simp) ?_
    refine take_P 2 (v := .pointer (some ⟨S, 4, none⟩)) rfl (by kernel_rfl) (by kernel_rfl) (by kernel_rfl) (fun _ _ _ h => h) rfl (fun W' => by go_simp) ?_
    refine take_L 3 (v := .map (some W6.heap.size)) rfl (by kernel_rfl) (by kernel_rfl) (by kernel_rfl) (by kernel_rfl) (fun _ _ _ h => h) rfl (fun W' hW' => by have e4 := hW'.bld.blk.cell' 4 rfl; clear hW'; go_simp) hS0 ?_
    refine take_P 4 (v := .pointer (some ⟨w.heap.size, 1, none⟩)) rfl (by kernel_rfl) (by kernel_rfl) (by kernel_rfl) (fun _ _ _ h => h) rfl (fun W' => by go_simp) ?_
    refine take_L 5 (v := .int .i64 b.label) rfl (by kernel_rfl) (by kernel_rfl) (by kernel_rfl) (by kernel_rfl) (fun _ _ _ h => h) rfl (fun W' hW' => by have e4 := hW'.label; clear hW'; go_simp) hS0 ?_
    obtain ⟨w9, hrun, hset, hgr⟩ := hS0.bld.labs.store (P := Try.prog) Try.underlying3 Try.underlying67 LWF.out LKWF.out (of_decide_eq_false LMEM.out)
    have hst9 : AddSt w base S w.heap.size b (pl i) (s.progs ++ [(b.n, i)]) 0 (s.mate ++ [-1]) s.op (numsOf s.progs ++ [b.n]) (labelsOf bs i (i + 1)) (.slice (some ⟨g9, 0, none⟩) (q + 1 + 1) c9) (.slice (some ⟨g, 0, none⟩) (s.mate.length + 1) c) (.slice lo 0 co) bn W6.heap.size w9 := by
      rw [HLABS.out]
      exact add_lab hS0 hset hgr
    refine one_L 6 (by kernel_rfl) rfl rfl fun K6 hK6 => ?_
    have HK6 := Lib.hid hK6
    clear hK6
    go_simp
    refine HK6.out _ _ (fun h => absurd h (by decide)) ?_
    refine done_L (by kernel_rfl) ?_ _
    refine on_told (fun W => AddSt w base S w.heap.size b (pl i) (s.progs ++ [(b.n, i)]) 0 (s.mate ++ [-1]) s.op (numsOf s.progs ++ [b.n]) (labelsOf bs i (i + 1)) (.slice (some ⟨g9, 0, none⟩) (q + 1 + 1) c9) (.slice (some ⟨g, 0, none⟩) (s.mate.length + 1) c) (.slice lo 0 co) bn W6.heap.size W) hst9 fun W3 h3 => ?_
    clear hS0 H2 n0 n1 n6 hst9 hrun hset hgr HK6
    have H3 := Lib.hid h3
    have n0 := h3.kind
    have n1 := h3.label
    have n6 := h3.n
    clear h3
    go_simp
    go_wp2_with fail
    go_ret2
    have hpne : s.progs ≠ [] := by
      obtain ⟨r, e, _, _⟩ := HOK.out.progs
      rw [e]
      exact List.cons_ne_nil _ _
    refine AddPost.ok HOKS.out H3.out.bel ?_ rfl
    rw [numsOf_snoc hpne, lastFirst_snoc]
    exact ⟨_, _, _, _, _, H3.out.bld⟩
end Go.Proofs.Yteiogjgmedikhaa
