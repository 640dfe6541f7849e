/-
  library's add at the end of a loop.
-/
import Derived.Test.YteiogjgmedikhaaAddL09
import Derived.Test.YteiogjgmedikhaaHeld
import Derived.IntWalk
namespace Go.Proofs.Yteiogjgmedikhaa
open Go Go.RowKit
set_option linter.unusedVariables false



set_option maxRecDepth 100000 in
set_option maxHeartbeats 4000000 in
theorem add_end0_none (bs : List BlkL) (a : Option Addr) (cap : Nat) (pl : Nat → Place) (base S i : Nat) (b : BlkL) (s : StL) (w : World) (hsrc : ∀ W, Below base w W → base ≤ W.heap.size → BlksAt W bs a cap pl) (hsz : base ≤ w.heap.size)
    (hb : bs[i]? = some b) (hvs : ∀ (j : Nat) (b : BlkL), bs[j]? = some b → validB b = true) (hok : StOK bs i s) (hlen : bs.length ≤ 2000) (hbld : BldSome base S s.progs s.mate s.op (numsOf s.progs) (labelsOf bs (lastFirst s.progs) i) w)
    (hk : b.kind = 5) (hm : s.op.length = 0) (hlab : b.label ≤ 0) :
    Calls Try.prog 39 #[.pointer (some ⟨S, 0, none⟩), .slice a bs.length cap, .int .i64 i] w (AddPost bs b i s base S w) := by
  have k4 : (b.kind == 4) = false := by simp; omega
  have k5 : (b.kind == 5) = true := by simp; omega
  have k6 : (b.kind == 6) = false := by simp; omega
  have hv := hvs i b hb
  have hpb : progsB b i s = s.progs := if_neg (by omega)
  have l0 : decide (0 < b.label) = false := decide_eq_false (by omega)
  have hdl : dupL bs b i s = false := decide_eq_false (by omega)
  have HLABS := Lib.hid (show labelsOf bs (lastFirst s.progs) (i + 1) = labelsOf bs (lastFirst s.progs) i by rw [labelsOf_succ hb hok.first, if_neg (by omega), List.append_nil])
  have HERR := Lib.hid (show stepB bs b i s = .err i 11 by
    unfold stepB
    rw [if_neg (by omega), if_neg (by omega), hdl, if_neg (by decide), if_neg (by omega), if_pos hk, if_pos (.inl (List.length_eq_zero_iff.1 hm))])
  clear hk hlab hdl hvs hpb
  have hi : i < bs.length := (List.getElem?_eq_some_iff.1 hb).1
  have h0 := hsrc w (Below.refl _ _) hsz
  obtain ⟨hl, sb, so, rfl, hsb, hcc⟩ := h0.tab i hi
  have i0 : (0 : Int) ≤ (i : Int) := by omega
  have i1 : (i : Int) < (bs.length : Int) := by omega
  obtain ⟨vp, vm, vo, bn, bl, hbld⟩ := hbld
  have HOK := Lib.hid hok
  have HSRC := Lib.hid hsrc
  have HB := Lib.hid hb
  have HV := Lib.hid hv
  have hop := hok.few
  have hmt := hok.mate
  obtain ⟨lo, co, rfl⟩ := own_form hbld.op
  rw [hm] at hbld
  clear hm
  have HBLD := Lib.hid hbld
  have HMT := Lib.hid hmt
  have HSZ := Lib.hid hsz
  have hrow0 : ∀ j v, (blkC b (pl i))[j]? = some v → w.cell? ⟨sb, so + i * 11 + j, none⟩ = some v := fun j v hv => by
    rw [hcc j (by have := (List.getElem?_eq_some_iff.1 hv).1; simpa [blkC] using this), blksC_at HB.out]; exact hv
  have HR0 := Lib.hid hrow0
  clear hbld hok hsrc hb hv h0 hl hcc hmt hsz hrow0 hsb
  go_enter Try.func39, Try.ntmps39
  go_wp2_with fail
  refine region_L (fun W => (∀ j v, (blkC b (pl i))[j]? = some v → W.cell? ⟨sb, so + i * 11 + j, none⟩ = some v) ∧ W.cell? ⟨S, 2, none⟩ = some (.slice lo 0 co)) [] (by kernel_rfl) ?_
  have hS0 : (∀ j v, (blkC b (pl i))[j]? = some v → w.drew.cell? ⟨sb, so + i * 11 + j, none⟩ = some v) ∧ w.drew.cell? ⟨S, 2, none⟩ = some (.slice lo 0 co) := ⟨HR0.out, HBLD.out.blk.cell' 2 rfl⟩
  refine take_P 0 (v := .slice (some ⟨sb, so, none⟩) bs.length cap) rfl (by kernel_rfl) (by kernel_rfl) (by kernel_rfl) (fun _ _ _ h => h) rfl (fun W' => by go_simp) ?_
  refine take_P 1 (v := .int .i64 i) rfl (by kernel_rfl) (by kernel_rfl) (by kernel_rfl) (fun _ _ _ h => h) rfl (fun W' => by go_simp) ?_
  refine take_P 2 (v := .pointer (some ⟨sb, so + i * 11, none⟩)) rfl (by kernel_rfl) (by kernel_rfl) (by kernel_rfl) (fun _ _ _ h => h) rfl (fun W' => by go_simp) ?_
  refine take_L 3 (v := .agg (blkC b (pl i)).toArray) rfl (by kernel_rfl) (by kernel_rfl) (by kernel_rfl) (by kernel_rfl) (fun _ _ _ h => h) rfl (fun W' hW' => by exact exec_load 37 (.tmp 15) rfl ⟨sb, so + i * 11, none⟩ _ (by go_simp) (run_loadAt_mid W' sb (so + i * 11) 37 (blkC b (pl i)) _ hW'.1 Try.underlying37 rfl (by kernel_rfl))) hS0 ?_
  refine take_P 4 (v := .pointer (some ⟨S, 0, none⟩)) rfl (by kernel_rfl) (by kernel_rfl) (by kernel_rfl) (fun _ _ _ h => h) rfl (fun W' => by go_simp) ?_
  refine take_P 5 (v := .pointer (some ⟨S, 0, none⟩)) rfl (by kernel_rfl) (by kernel_rfl) (by kernel_rfl) (fun _ _ _ h => h) rfl (fun W' => by go_simp) ?_
  refine take_P 6 (v := .pointer (some ⟨S, 2, none⟩)) rfl (by kernel_rfl) (by kernel_rfl) (by kernel_rfl) (fun _ _ _ h => h) rfl (fun W' => by go_simp) ?_
  refine take_L 7 (v := .slice lo 0 co) rfl (by kernel_rfl) (by kernel_rfl) (by kernel_rfl) (by kernel_rfl) (fun _ _ _ h => h) rfl (fun W' hW' => by have e2 := hW'.2; clear hW'; go_simp) hS0 ?_
  refine take_P 8 (v := .int .i64 0) rfl (by kernel_rfl) (by kernel_rfl) (by kernel_rfl) (fun _ _ _ h => h) rfl (fun W' => by go_simp) ?_
  have hkeep : ∀ o : Obj, (∀ j v, (blkC b (pl i))[j]? = some v → (w.drew.alloc o).cell? ⟨sb, so + i * 11 + j, none⟩ = some v) ∧ (w.drew.alloc o).cell? ⟨S, 2, none⟩ = some (.slice lo 0 co) := fun o => by
    have hb1 : Below w.heap.size w (w.drew.alloc o) := ((Below.refl _ _).drew).alloc (Nat.le_refl _) o
    exact ⟨fun j v hv => (hb1.cell (p := ⟨sb, so + i * 11 + j, none⟩) (block_lt_of_cell (HR0.out j v hv))).trans (HR0.out j v hv), (HBLD.out.blk.below hb1 HBLD.out.blk.lt).cell' 2 rfl⟩
  refine one_L 9 (by kernel_rfl) rfl rfl fun K9 hK9 => ?_
  have HK9 := Lib.hid hK9
  clear hK9
  go_simp
  refine HK9.out _ _ (fun _ _ => hkeep _) ?_
  refine one_L 10 (by kernel_rfl) rfl rfl fun K10 hK10 => ?_
  have HK10 := Lib.hid hK10
  clear hK10
  refine wp_store_new (w := w.drew) 37 (.tmp 8) (.tmp 16) rfl #[.int .i64 0, .int .i64 0, .bool false, .slice none 0 0, .int .i64 0, .int .i64 0, .slice none 0 0, .int .i64 0, .int .i64 0, .slice none 0 0, .int .i64 0] (blkC b (pl i)).toArray rfl rfl (by kernel_rfl) rfl (all_oneCell_toArray blkC_one) ?_
  refine HK10.out _ _ (fun _ _ => hkeep _) ?_
  refine one_L 11 (by kernel_rfl) rfl rfl fun K11 hK11 => ?_
  have HK11 := Lib.hid hK11
  clear hK11
  go_simp
  refine HK11.out _ _ (fun _ _ => hkeep _) ?_
  refine done_L (by kernel_rfl) ?_ _
  have hst : AddSt w base S w.heap.size b (pl i) s.progs 0 s.mate s.op (numsOf s.progs) (labelsOf bs (lastFirst s.progs) i) vp vm (.slice lo 0 co) bn bl (w.drew.alloc (.cells (blkC b (pl i)).toArray 37)) := by
    have hb1 : Below w.heap.size w (w.drew.alloc (.cells (blkC b (pl i)).toArray 37)) := ((Below.refl _ _).drew).alloc (Nat.le_refl _) _
    refine ⟨HBLD.out.under hb1, Blk.new w.drew 37 _, hb1.mono HSZ.out, by have := HSZ.out; simp; omega⟩
  refine on_told (fun W => AddSt w base S w.heap.size b (pl i) s.progs 0 s.mate s.op (numsOf s.progs) (labelsOf bs (lastFirst s.progs) i) vp vm (.slice lo 0 co) bn bl W) hst fun W1 h1 => ?_
  clear hst hkeep hS0 HK9 HK10 HK11
  have H1 := Lib.hid h1
  have f1 := h1.bld.blk.cell 1
  have HM1 := Lib.hid (h1.bld.mate.alloc (.cells #[.int .i64 (-1)] 3))
  have HB1 := Lib.hid (Blk.new W1 3 #[.int .i64 (-1)])
  have HL1 := Lib.hid (show base ≤ (W1.alloc (.cells #[.int .i64 (-1)] 3)).heap.size by have := h1.size; simp; omega)
  clear h1
  go_simp
  go_wp2_with (at_builtin; refine wpList_push rfl (.tmp 26) (.tmp 27) 23 rfl base 3 (.int .i64 0) 1 8 Try.underlying23 infoInt rfl (by decide) (by decide) vm s.mate.length (intC s.mate) rfl HM1.out W1.heap.size [.int .i64 (-1)] rfl HB1.out rfl (by simp [Value.oneCell']) ?c1 HL1.out ?c2)
  case c1 => have := HMT.out; omega
  case c2 =>
    intro g c w2 hp
    have h2 := H1.out
    have hb1 : Below W1.heap.size W1 (W1.alloc (.cells #[.int .i64 (-1)] 3)) := (Below.refl _ _).alloc (Nat.le_refl _) _
    have hbl2 := (h2.bld.under hb1).pushMate hp
    have hS2 : Blk w2 S 69 _ := (h2.bld.blk.alloc _).grown hp.grown (own_ne h2.bld.mate h2.bld.blk (by decide))
    have hN2 : Blk w2 w.heap.size 37 (blkC b (pl i)).toArray := (h2.blk.alloc _).grown hp.grown (own_ne h2.bld.mate h2.blk (by decide))
    have hsz2 := h2.size
    have hsl2 := hp.grown.size
    have hst : AddSt w base S w.heap.size b (pl i) s.progs 0 (s.mate ++ [-1]) s.op (numsOf s.progs) (labelsOf bs (lastFirst s.progs) i) vp (.slice (some ⟨g, 0, none⟩) (s.mate.length + 1) c) (.slice lo 0 co) bn bl (w2.setCell ⟨S, 1, none⟩ (.slice (some ⟨g, 0, none⟩) (s.mate.length + 1) c)) := by
      refine ⟨hbl2, hN2.far (p := ⟨S, 1, none⟩) (fun e => ?_) _, ?_, by simp at hsl2 ⊢; omega⟩
      · have e' : w.heap.size = S := e
        rw [e'] at hN2
        unfold Blk at hN2 hS2
        rw [hS2] at hN2
        injection hN2 with hN2
        injection hN2 with _ hN2
        exact absurd hN2 (by decide)
      · exact ((h2.bel.alloc hsz2 _).trans (below_of_grown hp.grown (by simp; omega) (fun k e => (h2.bld.mate.lt k e).1))).setCell h2.bld.far.1 _
    have HST := Lib.hid hst
    have t1 := hS2.cell 1
    have z1 := hS2.frozen 1
    clear hst hp hS2 hN2 hbl2 h2 hb1 hsl2
    go_upto_region 3 with (fail)
    refine on_told (fun W => AddSt w base S w.heap.size b (pl i) s.progs 0 (s.mate ++ [-1]) s.op (numsOf s.progs) (labelsOf bs (lastFirst s.progs) i) vp (.slice (some ⟨g, 0, none⟩) (s.mate.length + 1) c) (.slice lo 0 co) bn bl W) HST.out fun W2 h2 => ?_
    clear HST t1 z1 HM1 HB1 HL1 H1 f1
    have H2 := Lib.hid h2
    have n0 := h2.kind
    have n1 := h2.label
    have n6 := h2.n
    clear h2
    have h3 : AddSt w base S w.heap.size b (pl i) s.progs 0 (s.mate ++ [-1]) s.op (numsOf s.progs) (labelsOf bs (lastFirst s.progs) (i + 1)) vp (.slice (some ⟨g, 0, none⟩) (s.mate.length + 1) c) (.slice lo 0 co) bn bl W2 := by
      rw [HLABS.out]
      exact H2.out
    have H3 := Lib.hid h3
    clear h3 H2
    let S0 : World → Prop := fun W => AddSt w base S w.heap.size b (pl i) s.progs 0 (s.mate ++ [-1]) s.op (numsOf s.progs) (labelsOf bs (lastFirst s.progs) (i + 1)) vp (.slice (some ⟨g, 0, none⟩) (s.mate.length + 1) c) (.slice lo 0 co) bn bl W
    have hs : S0 _ := H3.out.drew
    have inst : Nonempty (At S0) := ⟨⟨_, hs⟩⟩
    have hST : ∀ p : At S0, AddSt w base S w.heap.size b (pl i) s.progs 0 (s.mate ++ [-1]) s.op (numsOf s.progs) (labelsOf bs (lastFirst s.progs) (i + 1)) vp (.slice (some ⟨g, 0, none⟩) (s.mate.length + 1) c) (.slice lo 0 co) bn bl p.w := fun p => p.ok
    have HST := Lib.hid hST
    clear hST
    go_wp2_with fail
    clear_value S0
    refine wp_region_at S0 (by kernel_rfl) (by kernel_rfl) hs ?_
    repeat go_big_quiet_step (fail)
    refine wpQuiet_nil ?_
    rintro _ ⟨p, rfl⟩
    have H5 := Lib.hid (HST.out p)
    clear HST
    go_wp2_with fail
    go_ret2
    exact AddPost.err HERR.out H5.out.bel rfl
set_option maxRecDepth 100000 in
set_option maxHeartbeats 4000000 in
theorem add_end0_new (bs : List BlkL) (a : Option Addr) (cap : Nat) (pl : Nat → Place) (base S i : Nat) (b : BlkL) (s : StL) (w : World) (hsrc : ∀ W, Below base w W → base ≤ W.heap.size → BlksAt W bs a cap pl) (hsz : base ≤ w.heap.size)
    (hb : bs[i]? = some b) (hvs : ∀ (j : Nat) (b : BlkL), bs[j]? = some b → validB b = true) (hok : StOK bs i s) (hlen : bs.length ≤ 2000) (hbld : BldSome base S s.progs s.mate s.op (numsOf s.progs) (labelsOf bs (lastFirst s.progs) i) w)
    (hk : b.kind = 5) (hm : s.op.length = 0) (hlab : 0 < b.label ∧ b.label ∉ labelsOf bs (lastFirst s.progs) i) :
    Calls Try.prog 39 #[.pointer (some ⟨S, 0, none⟩), .slice a bs.length cap, .int .i64 i] w (AddPost bs b i s base S w) := by
  have k4 : (b.kind == 4) = false := by simp; omega
  have k5 : (b.kind == 5) = true := by simp; omega
  have k6 : (b.kind == 6) = false := by simp; omega
  have hv := hvs i b hb
  have hpb : progsB b i s = s.progs := if_neg (by omega)
  have l0 : decide (0 < b.label) = true := decide_eq_true hlab.1
  have LMEM := Lib.hid (show decide (b.label ∈ labelsOf bs (lastFirst s.progs) i) = false from decide_eq_false hlab.2)
  have hdl : dupL bs b i s = false := by
    unfold dupL
    rw [hpb]
    exact decide_eq_false fun h => hlab.2 h.2
  have HLABS := Lib.hid (show labelsOf bs (lastFirst s.progs) (i + 1) = labelsOf bs (lastFirst s.progs) i ++ [b.label] by rw [labelsOf_succ hb hok.first, if_pos hlab.1])
  have LWF := Lib.hid (wf_small (x := b.label) (by omega) (by have := valid_label (hvs i b hb); omega))
  have LKWF := Lib.hid (labels_wf hvs (lastFirst s.progs) i)
  have HERR := Lib.hid (show stepB bs b i s = .err i 11 by
    unfold stepB
    rw [if_neg (by omega), if_neg (by omega), hdl, if_neg (by decide), if_neg (by omega), if_pos hk, if_pos (.inl (List.length_eq_zero_iff.1 hm))])
  clear hk hlab hdl hvs hpb
  have hi : i < bs.length := (List.getElem?_eq_some_iff.1 hb).1
  have h0 := hsrc w (Below.refl _ _) hsz
  obtain ⟨hl, sb, so, rfl, hsb, hcc⟩ := h0.tab i hi
  have i0 : (0 : Int) ≤ (i : Int) := by omega
  have i1 : (i : Int) < (bs.length : Int) := by omega
  obtain ⟨vp, vm, vo, bn, bl, hbld⟩ := hbld
  have HOK := Lib.hid hok
  have HSRC := Lib.hid hsrc
  have HB := Lib.hid hb
  have HV := Lib.hid hv
  have hop := hok.few
  have hmt := hok.mate
  obtain ⟨lo, co, rfl⟩ := own_form hbld.op
  rw [hm] at hbld
  clear hm
  have HBLD := Lib.hid hbld
  have HMT := Lib.hid hmt
  have HSZ := Lib.hid hsz
  have hrow0 : ∀ j v, (blkC b (pl i))[j]? = some v → w.cell? ⟨sb, so + i * 11 + j, none⟩ = some v := fun j v hv => by
    rw [hcc j (by have := (List.getElem?_eq_some_iff.1 hv).1; simpa [blkC] using this), blksC_at HB.out]; exact hv
  have HR0 := Lib.hid hrow0
  clear hbld hok hsrc hb hv h0 hl hcc hmt hsz hrow0 hsb
  go_enter Try.func39, Try.ntmps39
  go_wp2_with fail
  refine region_L (fun W => (∀ j v, (blkC b (pl i))[j]? = some v → W.cell? ⟨sb, so + i * 11 + j, none⟩ = some v) ∧ W.cell? ⟨S, 2, none⟩ = some (.slice lo 0 co)) [] (by kernel_rfl) ?_
  have hS0 : (∀ j v, (blkC b (pl i))[j]? = some v → w.drew.cell? ⟨sb, so + i * 11 + j, none⟩ = some v) ∧ w.drew.cell? ⟨S, 2, none⟩ = some (.slice lo 0 co) := ⟨HR0.out, HBLD.out.blk.cell' 2 rfl⟩
  refine take_P 0 (v := .slice (some ⟨sb, so, none⟩) bs.length cap) rfl (by kernel_rfl) (by kernel_rfl) (by kernel_rfl) (fun _ _ _ h => h) rfl (fun W' => by go_simp) ?_
  refine take_P 1 (v := .int .i64 i) rfl (by kernel_rfl) (by kernel_rfl) (by kernel_rfl) (fun _ _ _ h => h) rfl (fun W' => by go_simp) ?_
  refine take_P 2 (v := .pointer (some ⟨sb, so + i * 11, none⟩)) rfl (by kernel_rfl) (by kernel_rfl) (by kernel_rfl) (fun _ _ _ h => h) rfl (fun W' => by go_simp) ?_
  refine take_L 3 (v := .agg (blkC b (pl i)).toArray) rfl (by kernel_rfl) (by kernel_rfl) (by kernel_rfl) (by kernel_rfl) (fun _ _ _ h => h) rfl (fun W' hW' => by exact exec_load 37 (.tmp 15) rfl ⟨sb, so + i * 11, none⟩ _ (by go_simp) (run_loadAt_mid W' sb (so + i * 11) 37 (blkC b (pl i)) _ hW'.1 Try.underlying37 rfl (by kernel_rfl))) hS0 ?_
  refine take_P 4 (v := .pointer (some ⟨S, 0, none⟩)) rfl (by kernel_rfl) (by kernel_rfl) (by kernel_rfl) (fun _ _ _ h => h) rfl (fun W' => by go_simp) ?_
  refine take_P 5 (v := .pointer (some ⟨S, 0, none⟩)) rfl (by kernel_rfl) (by kernel_rfl) (by kernel_rfl) (fun _ _ _ h => h) rfl (fun W' => by go_simp) ?_
  refine take_P 6 (v := .pointer (some ⟨S, 2, none⟩)) rfl (by kernel_rfl) (by kernel_rfl) (by kernel_rfl) (fun _ _ _ h => h) rfl (fun W' => by go_simp) ?_
  refine take_L 7 (v := .slice lo 0 co) rfl (by kernel_rfl) (by kernel_rfl) (by kernel_rfl) (by kernel_rfl) (fun _ _ _ h => h) rfl (fun W' hW' => by have e2 := hW'.2; clear hW'; go_simp) hS0 ?_
  refine take_P 8 (v := .int .i64 0) rfl (by kernel_rfl) (by kernel_rfl) (by kernel_rfl) (fun _ _ _ h => h) rfl (fun W' => by go_simp) ?_
  have hkeep : ∀ o : Obj, (∀ j v, (blkC b (pl i))[j]? = some v → (w.drew.alloc o).cell? ⟨sb, so + i * 11 + j, none⟩ = some v) ∧ (w.drew.alloc o).cell? ⟨S, 2, none⟩ = some (.slice lo 0 co) := fun o => by
    have hb1 : Below w.heap.size w (w.drew.alloc o) := ((Below.refl _ _).drew).alloc (Nat.le_refl _) o
    exact ⟨fun j v hv => (hb1.cell (p := ⟨sb, so + i * 11 + j, none⟩) (block_lt_of_cell (HR0.out j v hv))).trans (HR0.out j v hv), (HBLD.out.blk.below hb1 HBLD.out.blk.lt).cell' 2 rfl⟩
  refine one_L 9 (by kernel_rfl) rfl rfl fun K9 hK9 => ?_
  have HK9 := Lib.hid hK9
  clear hK9
  go_simp
  refine HK9.out _ _ (fun _ _ => hkeep _) ?_
  refine one_L 10 (by kernel_rfl) rfl rfl fun K10 hK10 => ?_
  have HK10 := Lib.hid hK10
  clear hK10
  refine wp_store_new (w := w.drew) 37 (.tmp 8) (.tmp 16) rfl #[.int .i64 0, .int .i64 0, .bool false, .slice none 0 0, .int .i64 0, .int .i64 0, .slice none 0 0, .int .i64 0, .int .i64 0, .slice none 0 0, .int .i64 0] (blkC b (pl i)).toArray rfl rfl (by kernel_rfl) rfl (all_oneCell_toArray blkC_one) ?_
  refine HK10.out _ _ (fun _ _ => hkeep _) ?_
  refine one_L 11 (by kernel_rfl) rfl rfl fun K11 hK11 => ?_
  have HK11 := Lib.hid hK11
  clear hK11
  go_simp
  refine HK11.out _ _ (fun _ _ => hkeep _) ?_
  refine done_L (by kernel_rfl) ?_ _
  have hst : AddSt w base S w.heap.size b (pl i) s.progs 0 s.mate s.op (numsOf s.progs) (labelsOf bs (lastFirst s.progs) i) vp vm (.slice lo 0 co) bn bl (w.drew.alloc (.cells (blkC b (pl i)).toArray 37)) := by
    have hb1 : Below w.heap.size w (w.drew.alloc (.cells (blkC b (pl i)).toArray 37)) := ((Below.refl _ _).drew).alloc (Nat.le_refl _) _
    refine ⟨HBLD.out.under hb1, Blk.new w.drew 37 _, hb1.mono HSZ.out, by have := HSZ.out; simp; omega⟩
  refine on_told (fun W => AddSt w base S w.heap.size b (pl i) s.progs 0 s.mate s.op (numsOf s.progs) (labelsOf bs (lastFirst s.progs) i) vp vm (.slice lo 0 co) bn bl W) hst fun W1 h1 => ?_
  clear hst hkeep hS0 HK9 HK10 HK11
  have H1 := Lib.hid h1
  have f1 := h1.bld.blk.cell 1
  have HM1 := Lib.hid (h1.bld.mate.alloc (.cells #[.int .i64 (-1)] 3))
  have HB1 := Lib.hid (Blk.new W1 3 #[.int .i64 (-1)])
  have HL1 := Lib.hid (show base ≤ (W1.alloc (.cells #[.int .i64 (-1)] 3)).heap.size by have := h1.size; simp; omega)
  clear h1
  go_simp
  go_wp2_with (at_builtin; refine wpList_push rfl (.tmp 26) (.tmp 27) 23 rfl base 3 (.int .i64 0) 1 8 Try.underlying23 infoInt rfl (by decide) (by decide) vm s.mate.length (intC s.mate) rfl HM1.out W1.heap.size [.int .i64 (-1)] rfl HB1.out rfl (by simp [Value.oneCell']) ?c1 HL1.out ?c2)
  case c1 => have := HMT.out; omega
  case c2 =>
    intro g c w2 hp
    have h2 := H1.out
    have hb1 : Below W1.heap.size W1 (W1.alloc (.cells #[.int .i64 (-1)] 3)) := (Below.refl _ _).alloc (Nat.le_refl _) _
    have hbl2 := (h2.bld.under hb1).pushMate hp
    have hS2 : Blk w2 S 69 _ := (h2.bld.blk.alloc _).grown hp.grown (own_ne h2.bld.mate h2.bld.blk (by decide))
    have hN2 : Blk w2 w.heap.size 37 (blkC b (pl i)).toArray := (h2.blk.alloc _).grown hp.grown (own_ne h2.bld.mate h2.blk (by decide))
    have hsz2 := h2.size
    have hsl2 := hp.grown.size
    have hst : AddSt w base S w.heap.size b (pl i) s.progs 0 (s.mate ++ [-1]) s.op (numsOf s.progs) (labelsOf bs (lastFirst s.progs) i) vp (.slice (some ⟨g, 0, none⟩) (s.mate.length + 1) c) (.slice lo 0 co) bn bl (w2.setCell ⟨S, 1, none⟩ (.slice (some ⟨g, 0, none⟩) (s.mate.length + 1) c)) := by
      refine ⟨hbl2, hN2.far (p := ⟨S, 1, none⟩) (fun e => ?_) _, ?_, by simp at hsl2 ⊢; omega⟩
      · have e' : w.heap.size = S := e
        rw [e'] at hN2
        unfold Blk at hN2 hS2
        rw [hS2] at hN2
        injection hN2 with hN2
        injection hN2 with _ hN2
        exact absurd hN2 (by decide)
      · exact ((h2.bel.alloc hsz2 _).trans (below_of_grown hp.grown (by simp; omega) (fun k e => (h2.bld.mate.lt k e).1))).setCell h2.bld.far.1 _
    have HST := Lib.hid hst
    have t1 := hS2.cell 1
    have z1 := hS2.frozen 1
    clear hst hp hS2 hN2 hbl2 h2 hb1 hsl2
    go_upto_region 3 with (fail)
    refine on_told (fun W => AddSt w base S w.heap.size b (pl i) s.progs 0 (s.mate ++ [-1]) s.op (numsOf s.progs) (labelsOf bs (lastFirst s.progs) i) vp (.slice (some ⟨g, 0, none⟩) (s.mate.length + 1) c) (.slice lo 0 co) bn bl W) HST.out fun W2 h2 => ?_
    clear HST t1 z1 HM1 HB1 HL1 H1 f1
    have H2 := Lib.hid h2
    have n0 := h2.kind
    have n1 := h2.label
    have n6 := h2.n
    clear h2
    go_wp2_with fail
    refine region_L (fun W => AddSt w base S w.heap.size b (pl i) s.progs 0 (s.mate ++ [-1]) s.op (numsOf s.progs) (labelsOf bs (lastFirst s.progs) i) vp (.slice (some ⟨g, 0, none⟩) (s.mate.length + 1) c) (.slice lo 0 co) bn bl W) [] (by kernel_rfl) ?_
    have hS0 := H2.out.drew
    refine take_P 0 (v := .pointer (some ⟨S, 0, none⟩)) rfl (by kernel_rfl) (by kernel_rfl) (by kernel_rfl) (fun _ _ _ h => h) rfl (fun W' => by go_simp) ?_
    refine take_P 1 (v := .pointer (some ⟨S, 0, none⟩)) rfl (by kernel_rfl) (by kernel_rfl) (by kernel_rfl) (fun _ _ _ h => h) rfl (fun W' => by go_simp) ?_
    refine take_P 2 (v := .pointer (some ⟨S, 4, none⟩)) rfl (by kernel_rfl) (by kernel_rfl) (by kernel_rfl) (fun _ _ _ h => h) rfl (fun W' => by go_simp) ?_
    refine take_L 3 (v := .map (some bl)) rfl (by kernel_rfl) (by kernel_rfl) (by kernel_rfl) (by kernel_rfl) (fun _ _ _ h => h) rfl (fun W' hW' => by have e4 := hW'.bld.blk.cell' 4 rfl; clear hW'; go_simp) hS0 ?_
    refine take_P 4 (v := .pointer (some ⟨w.heap.size, 1, none⟩)) rfl (by kernel_rfl) (by kernel_rfl) (by kernel_rfl) (fun _ _ _ h => h) rfl (fun W' => by go_simp) ?_
    refine take_L 5 (v := .int .i64 b.label) rfl (by kernel_rfl) (by kernel_rfl) (by kernel_rfl) (by kernel_rfl) (fun _ _ _ h => h) rfl (fun W' hW' => by have e4 := hW'.label; clear hW'; go_simp) hS0 ?_
    refine take_L 6 (v := .bool false) rfl (by kernel_rfl) (by kernel_rfl) (by kernel_rfl) (by kernel_rfl) (fun _ _ _ h => h) rfl (fun W' hW' => by exact exec_lookup 67 (.tmp 94) (.tmp 96) rfl (.map (some bl)) (.int .i64 b.label) (.bool false) (by go_simp) (by go_simp) (by have h9 := hW'.bld.labs.look Try.underlying3 Try.underlying67 (zero_bool W') LWF.out LKWF.out; rw [LMEM.out] at h9; exact h9)) hS0 ?_
    refine done_L (by kernel_rfl) ?_ _
    refine on_told (fun W => AddSt w base S w.heap.size b (pl i) s.progs 0 (s.mate ++ [-1]) s.op (numsOf s.progs) (labelsOf bs (lastFirst s.progs) i) vp (.slice (some ⟨g, 0, none⟩) (s.mate.length + 1) c) (.slice lo 0 co) bn bl W) hS0 fun W3 h3 => ?_
    clear hS0 H2 n0 n1 n6
    have H2 := Lib.hid h3
    have n0 := h3.kind
    have n1 := h3.label
    have n6 := h3.n
    clear h3
    go_simp
    go_wp2_with fail
    refine region_L (fun W => AddSt w base S w.heap.size b (pl i) s.progs 0 (s.mate ++ [-1]) s.op (numsOf s.progs) (labelsOf bs (lastFirst s.progs) i) vp (.slice (some ⟨g, 0, none⟩) (s.mate.length + 1) c) (.slice lo 0 co) bn bl W) [6] (by kernel_rfl) ?_
    have hS0 := H2.out.drew
    refine take_P 0 (v := .pointer (some ⟨S, 0, none⟩)) rfl (by kernel_rfl) (by kernel_rfl) (by kernel_rfl) (fun _ _ _ h => h) rfl (fun W' => by go_simp) ?_
    refine take_P 1 (v := .pointer (some ⟨S, 0, none⟩)) rfl (by kernel_rfl) (by kernel_rfl) (by kernel_rfl) (fun _ _ _ h => h) rfl (fun W' => by go_simp) ?_
    refine take_P 2 (v := .pointer (some ⟨S, 4, none⟩)) rfl (by kernel_rfl) (by kernel_rfl) (by kernel_rfl) (fun _ _ _ h => h) rfl (fun W' => by go_simp) ?_
    refine take_L 3 (v := .map (some bl)) rfl (by kernel_rfl) (by kernel_rfl) (by kernel_rfl) (by kernel_rfl) (fun _ _ _ h => h) rfl (fun W' hW' => by have e4 := hW'.bld.blk.cell' 4 rfl; clear hW'; go_simp) hS0 ?_
    refine take_P 4 (v := .pointer (some ⟨w.heap.size, 1, none⟩)) rfl (by kernel_rfl) (by kernel_rfl) (by kernel_rfl) (fun _ _ _ h => h) rfl (fun W' => by go_simp) ?_
    refine take_L 5 (v := .int .i64 b.label) rfl (by kernel_rfl) (by kernel_rfl) (by kernel_rfl) (by kernel_rfl) (fun _ _ _ h => h) rfl (fun W' hW' => by have e4 := hW'.label; clear hW'; go_simp) hS0 ?_
    obtain ⟨w9, hrun, hset, hgr⟩ := hS0.bld.labs.store (P := Try.prog) Try.underlying3 Try.underlying67 LWF.out LKWF.out (of_decide_eq_false LMEM.out)
    have hst9 : AddSt w base S w.heap.size b (pl i) s.progs 0 (s.mate ++ [-1]) s.op (numsOf s.progs) (labelsOf bs (lastFirst s.progs) (i + 1)) vp (.slice (some ⟨g, 0, none⟩) (s.mate.length + 1) c) (.slice lo 0 co) bn bl w9 := by
      rw [HLABS.out]
      exact add_lab hS0 hset hgr
    refine one_L 6 (by kernel_rfl) rfl rfl fun K6 hK6 => ?_
    have HK6 := Lib.hid hK6
    clear hK6
    go_simp
    refine HK6.out _ _ (fun h => absurd h (by decide)) ?_
    refine done_L (by kernel_rfl) ?_ _
    refine on_told (fun W => AddSt w base S w.heap.size b (pl i) s.progs 0 (s.mate ++ [-1]) s.op (numsOf s.progs) (labelsOf bs (lastFirst s.progs) (i + 1)) vp (.slice (some ⟨g, 0, none⟩) (s.mate.length + 1) c) (.slice lo 0 co) bn bl W) hst9 fun W3 h3 => ?_
    clear hS0 H2 n0 n1 n6 hst9 hrun hset hgr HK6
    have H3 := Lib.hid h3
    have n0 := h3.kind
    have n1 := h3.label
    have n6 := h3.n
    clear h3
    go_simp
    let S0 : World → Prop := fun W => AddSt w base S w.heap.size b (pl i) s.progs 0 (s.mate ++ [-1]) s.op (numsOf s.progs) (labelsOf bs (lastFirst s.progs) (i + 1)) vp (.slice (some ⟨g, 0, none⟩) (s.mate.length + 1) c) (.slice lo 0 co) bn bl W
    have hs : S0 _ := H3.out.drew
    have inst : Nonempty (At S0) := ⟨⟨_, hs⟩⟩
    have hST : ∀ p : At S0, AddSt w base S w.heap.size b (pl i) s.progs 0 (s.mate ++ [-1]) s.op (numsOf s.progs) (labelsOf bs (lastFirst s.progs) (i + 1)) vp (.slice (some ⟨g, 0, none⟩) (s.mate.length + 1) c) (.slice lo 0 co) bn bl p.w := fun p => p.ok
    have HST := Lib.hid hST
    clear hST
    go_wp2_with fail
    clear_value S0
    refine wp_region_at S0 (by kernel_rfl) (by kernel_rfl) hs ?_
    repeat go_big_quiet_step (fail)
    refine wpQuiet_nil ?_
    rintro _ ⟨p, rfl⟩
    have H5 := Lib.hid (HST.out p)
    clear HST
    go_wp2_with fail
    go_ret2
    exact AddPost.err HERR.out H5.out.bel rfl
set_option maxRecDepth 100000 in
set_option maxHeartbeats 4000000 in
theorem add_end1_none (bs : List BlkL) (a : Option Addr) (cap : Nat) (pl : Nat → Place) (base S i : Nat) (b : BlkL) (s : StL) (w : World) (hsrc : ∀ W, Below base w W → base ≤ W.heap.size → BlksAt W bs a cap pl) (hsz : base ≤ w.heap.size)
    (hb : bs[i]? = some b) (hvs : ∀ (j : Nat) (b : BlkL), bs[j]? = some b → validB b = true) (hok : StOK bs i s) (hlen : bs.length ≤ 2000) (hbld : BldSome base S s.progs s.mate s.op (numsOf s.progs) (labelsOf bs (lastFirst s.progs) i) w)
    (hk : b.kind = 5) (m t : Nat) (hm : s.op.length = m + 1) (ht : topOf s.op = t) (hlab : b.label ≤ 0) :
    Calls Try.prog 39 #[.pointer (some ⟨S, 0, none⟩), .slice a bs.length cap, .int .i64 i] w (AddPost bs b i s base S w) := by
  have k4 : (b.kind == 4) = false := by simp; omega
  have k5 : (b.kind == 5) = true := by simp; omega
  have k6 : (b.kind == 6) = false := by simp; omega
  have hv := hvs i b hb
  have hpb : progsB b i s = s.progs := if_neg (by omega)
  have l0 : decide (0 < b.label) = false := decide_eq_false (by omega)
  have hdl : dupL bs b i s = false := decide_eq_false (by omega)
  have HLABS := Lib.hid (show labelsOf bs (lastFirst s.progs) (i + 1) = labelsOf bs (lastFirst s.progs) i by rw [labelsOf_succ hb hok.first, if_neg (by omega), List.append_nil])
  have HERR := Lib.hid (fun hs : nOf bs t ≠ b.n => show stepB bs b i s = .err i 11 by
    unfold stepB
    rw [if_neg (by omega), if_neg (by omega), hdl, if_neg (by decide), if_neg (by omega), if_pos hk, if_pos (.inr (by rw [ht]; exact hs))])
  have hne : ¬ (s.op = [] ∨ nOf bs (topOf s.op) ≠ b.n) ∨ nOf bs t ≠ b.n := by
    by_cases h : nOf bs t = b.n
    · left
      rintro (h1 | h1)
      · rw [h1] at hm; cases hm
      · rw [ht] at h1; exact h1 h
    · exact .inr h
  have HOKS := Lib.hid (fun hs : nOf bs t = b.n => show stepB bs b i s = .ok ⟨s.progs, ((s.mate ++ [-1]).set t i).set i t, s.op.dropLast⟩ by
    unfold stepB
    rw [if_neg (by omega), if_neg (by omega), hdl, if_neg (by decide), if_neg (by omega), if_pos hk, if_neg (hne.resolve_right (not_not_intro hs)), hpb, ht])
  clear hk hlab hdl hvs hpb hne
  have hi : i < bs.length := (List.getElem?_eq_some_iff.1 hb).1
  have h0 := hsrc w (Below.refl _ _) hsz
  obtain ⟨hl, sb, so, rfl, hsb, hcc⟩ := h0.tab i hi
  have i0 : (0 : Int) ≤ (i : Int) := by omega
  have i1 : (i : Int) < (bs.length : Int) := by omega
  obtain ⟨vp, vm, vo, bn, bl, hbld⟩ := hbld
  have HOK := Lib.hid hok
  have HSRC := Lib.hid hsrc
  have HB := Lib.hid hb
  have HV := Lib.hid hv
  have hop := hok.few
  have hmt := hok.mate
  obtain ⟨lo, co, rfl⟩ := own_form hbld.op
  have hml : m < i := by have := hok.few; omega
  have htl : t < i := hok.op t (by rw [← ht]; exact topOf_mem (by intro e; rw [e] at hm; cases hm))
  have htm : s.op[m]? = some t := by
    have := topOf_at (l := s.op) (by intro e; rw [e] at hm; cases hm)
    rw [hm, ht] at this
    simpa using this
  rw [hm] at hbld
  obtain ⟨go, rfl, hgo1, hgo2, _⟩ := op_at hbld htm
  have hco := hbld.opCap rfl
  rw [hm] at hco
  have HTM := Lib.hid htm
  have HM := Lib.hid hm
  have HTL := Lib.hid (show t < bs.length ∧ t < i by omega)
  clear hm ht htm hgo1 hgo2
  have HBLD := Lib.hid hbld
  have HMT := Lib.hid hmt
  have HSZ := Lib.hid hsz
  have hrow0 : ∀ j v, (blkC b (pl i))[j]? = some v → w.cell? ⟨sb, so + i * 11 + j, none⟩ = some v := fun j v hv => by
    rw [hcc j (by have := (List.getElem?_eq_some_iff.1 hv).1; simpa [blkC] using this), blksC_at HB.out]; exact hv
  have HR0 := Lib.hid hrow0
  clear hbld hok hsrc hb hv h0 hl hcc hmt hsz hrow0 hsb
  go_enter Try.func39, Try.ntmps39
  go_wp2_with fail
  refine region_L (fun W => (∀ j v, (blkC b (pl i))[j]? = some v → W.cell? ⟨sb, so + i * 11 + j, none⟩ = some v) ∧ W.cell? ⟨S, 2, none⟩ = some (.slice (some ⟨go, 0, none⟩) (m + 1) co)) [] (by kernel_rfl) ?_
  have hS0 : (∀ j v, (blkC b (pl i))[j]? = some v → w.drew.cell? ⟨sb, so + i * 11 + j, none⟩ = some v) ∧ w.drew.cell? ⟨S, 2, none⟩ = some (.slice (some ⟨go, 0, none⟩) (m + 1) co) := ⟨HR0.out, HBLD.out.blk.cell' 2 rfl⟩
  refine take_P 0 (v := .slice (some ⟨sb, so, none⟩) bs.length cap) rfl (by kernel_rfl) (by kernel_rfl) (by kernel_rfl) (fun _ _ _ h => h) rfl (fun W' => by go_simp) ?_
  refine take_P 1 (v := .int .i64 i) rfl (by kernel_rfl) (by kernel_rfl) (by kernel_rfl) (fun _ _ _ h => h) rfl (fun W' => by go_simp) ?_
  refine take_P 2 (v := .pointer (some ⟨sb, so + i * 11, none⟩)) rfl (by kernel_rfl) (by kernel_rfl) (by kernel_rfl) (fun _ _ _ h => h) rfl (fun W' => by go_simp) ?_
  refine take_L 3 (v := .agg (blkC b (pl i)).toArray) rfl (by kernel_rfl) (by kernel_rfl) (by kernel_rfl) (by kernel_rfl) (fun _ _ _ h => h) rfl (fun W' hW' => by exact exec_load 37 (.tmp 15) rfl ⟨sb, so + i * 11, none⟩ _ (by go_simp) (run_loadAt_mid W' sb (so + i * 11) 37 (blkC b (pl i)) _ hW'.1 Try.underlying37 rfl (by kernel_rfl))) hS0 ?_
  refine take_P 4 (v := .pointer (some ⟨S, 0, none⟩)) rfl (by kernel_rfl) (by kernel_rfl) (by kernel_rfl) (fun _ _ _ h => h) rfl (fun W' => by go_simp) ?_
  refine take_P 5 (v := .pointer (some ⟨S, 0, none⟩)) rfl (by kernel_rfl) (by kernel_rfl) (by kernel_rfl) (fun _ _ _ h => h) rfl (fun W' => by go_simp) ?_
  refine take_P 6 (v := .pointer (some ⟨S, 2, none⟩)) rfl (by kernel_rfl) (by kernel_rfl) (by kernel_rfl) (fun _ _ _ h => h) rfl (fun W' => by go_simp) ?_
  refine take_L 7 (v := .slice (some ⟨go, 0, none⟩) (m + 1) co) rfl (by kernel_rfl) (by kernel_rfl) (by kernel_rfl) (by kernel_rfl) (fun _ _ _ h => h) rfl (fun W' hW' => by have e2 := hW'.2; clear hW'; go_simp) hS0 ?_
  refine take_P 8 (v := .int .i64 (m + 1)) rfl (by kernel_rfl) (by kernel_rfl) (by kernel_rfl) (fun _ _ _ h => h) rfl (fun W' => by go_simp) ?_
  have hkeep : ∀ o : Obj, (∀ j v, (blkC b (pl i))[j]? = some v → (w.drew.alloc o).cell? ⟨sb, so + i * 11 + j, none⟩ = some v) ∧ (w.drew.alloc o).cell? ⟨S, 2, none⟩ = some (.slice (some ⟨go, 0, none⟩) (m + 1) co) := fun o => by
    have hb1 : Below w.heap.size w (w.drew.alloc o) := ((Below.refl _ _).drew).alloc (Nat.le_refl _) o
    exact ⟨fun j v hv => (hb1.cell (p := ⟨sb, so + i * 11 + j, none⟩) (block_lt_of_cell (HR0.out j v hv))).trans (HR0.out j v hv), (HBLD.out.blk.below hb1 HBLD.out.blk.lt).cell' 2 rfl⟩
  refine one_L 9 (by kernel_rfl) rfl rfl fun K9 hK9 => ?_
  have HK9 := Lib.hid hK9
  clear hK9
  go_simp
  refine HK9.out _ _ (fun _ _ => hkeep _) ?_
  refine one_L 10 (by kernel_rfl) rfl rfl fun K10 hK10 => ?_
  have HK10 := Lib.hid hK10
  clear hK10
  refine wp_store_new (w := w.drew) 37 (.tmp 8) (.tmp 16) rfl #[.int .i64 0, .int .i64 0, .bool false, .slice none 0 0, .int .i64 0, .int .i64 0, .slice none 0 0, .int .i64 0, .int .i64 0, .slice none 0 0, .int .i64 0] (blkC b (pl i)).toArray rfl rfl (by kernel_rfl) rfl (all_oneCell_toArray blkC_one) ?_
  refine HK10.out _ _ (fun _ _ => hkeep _) ?_
  refine one_L 11 (by kernel_rfl) rfl rfl fun K11 hK11 => ?_
  have HK11 := Lib.hid hK11
  clear hK11
  go_simp
  refine HK11.out _ _ (fun _ _ => hkeep _) ?_
  refine done_L (by kernel_rfl) ?_ _
  have hst : AddSt w base S w.heap.size b (pl i) s.progs 0 s.mate s.op (numsOf s.progs) (labelsOf bs (lastFirst s.progs) i) vp vm (.slice (some ⟨go, 0, none⟩) (m + 1) co) bn bl (w.drew.alloc (.cells (blkC b (pl i)).toArray 37)) := by
    have hb1 : Below w.heap.size w (w.drew.alloc (.cells (blkC b (pl i)).toArray 37)) := ((Below.refl _ _).drew).alloc (Nat.le_refl _) _
    refine ⟨HBLD.out.under hb1, Blk.new w.drew 37 _, hb1.mono HSZ.out, by have := HSZ.out; simp; omega⟩
  refine on_told (fun W => AddSt w base S w.heap.size b (pl i) s.progs 0 s.mate s.op (numsOf s.progs) (labelsOf bs (lastFirst s.progs) i) vp vm (.slice (some ⟨go, 0, none⟩) (m + 1) co) bn bl W) hst fun W1 h1 => ?_
  clear hst hkeep hS0 HK9 HK10 HK11
  have H1 := Lib.hid h1
  have f1 := h1.bld.blk.cell 1
  have HM1 := Lib.hid (h1.bld.mate.alloc (.cells #[.int .i64 (-1)] 3))
  have HB1 := Lib.hid (Blk.new W1 3 #[.int .i64 (-1)])
  have HL1 := Lib.hid (show base ≤ (W1.alloc (.cells #[.int .i64 (-1)] 3)).heap.size by have := h1.size; simp; omega)
  clear h1
  go_simp
  go_wp2_with (at_builtin; refine wpList_push rfl (.tmp 26) (.tmp 27) 23 rfl base 3 (.int .i64 0) 1 8 Try.underlying23 infoInt rfl (by decide) (by decide) vm s.mate.length (intC s.mate) rfl HM1.out W1.heap.size [.int .i64 (-1)] rfl HB1.out rfl (by simp [Value.oneCell']) ?c1 HL1.out ?c2)
  case c1 => have := HMT.out; omega
  case c2 =>
    intro g c w2 hp
    have h2 := H1.out
    have hb1 : Below W1.heap.size W1 (W1.alloc (.cells #[.int .i64 (-1)] 3)) := (Below.refl _ _).alloc (Nat.le_refl _) _
    have hbl2 := (h2.bld.under hb1).pushMate hp
    have hS2 : Blk w2 S 69 _ := (h2.bld.blk.alloc _).grown hp.grown (own_ne h2.bld.mate h2.bld.blk (by decide))
    have hN2 : Blk w2 w.heap.size 37 (blkC b (pl i)).toArray := (h2.blk.alloc _).grown hp.grown (own_ne h2.bld.mate h2.blk (by decide))
    have hsz2 := h2.size
    have hsl2 := hp.grown.size
    have hst : AddSt w base S w.heap.size b (pl i) s.progs 0 (s.mate ++ [-1]) s.op (numsOf s.progs) (labelsOf bs (lastFirst s.progs) i) vp (.slice (some ⟨g, 0, none⟩) (s.mate.length + 1) c) (.slice (some ⟨go, 0, none⟩) (m + 1) co) bn bl (w2.setCell ⟨S, 1, none⟩ (.slice (some ⟨g, 0, none⟩) (s.mate.length + 1) c)) := by
      refine ⟨hbl2, hN2.far (p := ⟨S, 1, none⟩) (fun e => ?_) _, ?_, by simp at hsl2 ⊢; omega⟩
      · have e' : w.heap.size = S := e
        rw [e'] at hN2
        unfold Blk at hN2 hS2
        rw [hS2] at hN2
        injection hN2 with hN2
        injection hN2 with _ hN2
        exact absurd hN2 (by decide)
      · exact ((h2.bel.alloc hsz2 _).trans (below_of_grown hp.grown (by simp; omega) (fun k e => (h2.bld.mate.lt k e).1))).setCell h2.bld.far.1 _
    have HST := Lib.hid hst
    have t1 := hS2.cell 1
    have z1 := hS2.frozen 1
    clear hst hp hS2 hN2 hbl2 h2 hb1 hsl2
    go_upto_region 3 with (fail)
    refine on_told (fun W => AddSt w base S w.heap.size b (pl i) s.progs 0 (s.mate ++ [-1]) s.op (numsOf s.progs) (labelsOf bs (lastFirst s.progs) i) vp (.slice (some ⟨g, 0, none⟩) (s.mate.length + 1) c) (.slice (some ⟨go, 0, none⟩) (m + 1) co) bn bl W) HST.out fun W2 h2 => ?_
    clear HST t1 z1 HM1 HB1 HL1 H1 f1
    have H2 := Lib.hid h2
    have n0 := h2.kind
    have n1 := h2.label
    have n6 := h2.n
    clear h2
    have h3 : AddSt w base S w.heap.size b (pl i) s.progs 0 (s.mate ++ [-1]) s.op (numsOf s.progs) (labelsOf bs (lastFirst s.progs) (i + 1)) vp (.slice (some ⟨g, 0, none⟩) (s.mate.length + 1) c) (.slice (some ⟨go, 0, none⟩) (m + 1) co) bn bl W2 := by
      rw [HLABS.out]
      exact H2.out
    have H3 := Lib.hid h3
    clear h3 H2
    by_cases he : nOf bs t = b.n
    · have he' : (nOf bs t != b.n) = false := by simpa using he
      have HE := Lib.hid he
      clear he
      let S0 : World → Prop := fun W => AddSt w base S w.heap.size b (pl i) s.progs 0 (s.mate ++ [-1]) s.op (numsOf s.progs) (labelsOf bs (lastFirst s.progs) (i + 1)) vp (.slice (some ⟨g, 0, none⟩) (s.mate.length + 1) c) (.slice (some ⟨go, 0, none⟩) (m + 1) co) bn bl W
      have hs : S0 _ := H3.out.drew
      have inst : Nonempty (At S0) := ⟨⟨_, hs⟩⟩
      have hST : ∀ p : At S0, AddSt w base S w.heap.size b (pl i) s.progs 0 (s.mate ++ [-1]) s.op (numsOf s.progs) (labelsOf bs (lastFirst s.progs) (i + 1)) vp (.slice (some ⟨g, 0, none⟩) (s.mate.length + 1) c) (.slice (some ⟨go, 0, none⟩) (m + 1) co) bn bl p.w := fun p => p.ok
      have HST := Lib.hid hST
      clear hST
      go_wp2_with fail
      have y0 : ∀ p : At S0, p.w.cell? ⟨S, 2, none⟩ = some (.slice (some ⟨go, 0, none⟩) (m + 1) co) := fun p => (HST.out p).bld.blk.cell' 2 rfl
      have y1 : ∀ p : At S0, p.w.cell? ⟨go, m, none⟩ = some (.int .i64 t) := fun p => by
        obtain ⟨g', e, _, _, hc⟩ := op_at (HST.out p).bld HTM.out
        injection e with e
        injection e with e
        subst e
        exact hc
      have y2 : ∀ p : At S0, p.w.cell? ⟨sb, so + t * 11 + 10, none⟩ = some (.int .i64 (nOf bs t)) := fun p => blk_n (HSRC.out p.w (HST.out p).bel (HST.out p).size) HTL.out.1
      have y3 : ∀ p : At S0, p.w.cell? ⟨w.heap.size, 10, none⟩ = some (.int .i64 b.n) := fun p => (HST.out p).n
      have m0 : (0 : Int) ≤ (m : Int) := by omega
      have t0 : (0 : Int) ≤ (t : Int) := by omega
      have t1 : (t : Int) < (bs.length : Int) := by have := HTL.out; omega
      have m1 : ((m : Int) + 1 == 0) = false := by simp; omega
      clear_value S0
      refine wp_region_at S0 (by kernel_rfl) (by kernel_rfl) hs ?_
      repeat go_big_quiet_step (fail)
      refine wpQuiet_nil ?_
      rintro _ ⟨p, rfl⟩
      have H5 := Lib.hid (HST.out p)
      clear HST y0 y1 y2 y3
      generalize p.w = W5 at *
      have f2 := H5.out.bld.blk.cell 2
      have c2 : W5.cell? ⟨go, m, none⟩ = some (.int .i64 t) := by
        obtain ⟨g', e, _, _, hc⟩ := op_at H5.out.bld HTM.out
        injection e with e
        injection e with e
        subst e
        exact hc
      go_wp2_with fail
      refine region_L (fun W => AddSt w base S w.heap.size b (pl i) s.progs 0 (s.mate ++ [-1]) s.op (numsOf s.progs) (labelsOf bs (lastFirst s.progs) (i + 1)) vp (.slice (some ⟨g, 0, none⟩) (s.mate.length + 1) c) (.slice (some ⟨go, 0, none⟩) (m + 1) co) bn bl W) [22, 24, 26] (by kernel_rfl) ?_
      have hS0 := H5.out.drew
      have hML : (s.mate ++ [(-1 : Int)]).length = s.mate.length + 1 := by simp
      have htl1 := HTL.out
      obtain ⟨g', c', e, _, hgl, hct, hzt, hcap⟩ := hS0.bld.mateAt (k := t) (by have := HMT.out; omega)
      injection e with e1 e2 e3
      injection e1 with e1
      injection e1 with e1
      subst e1 e3
      have HSO := Lib.hid (hS0.popOp (go := go) (co := co) (by rw [HM.out]))
      have hsl1 : (m : Int) ≤ (co : Int) := by omega
      clear e2 hML hcap hct hzt
      refine take_P 0 (v := .pointer (some ⟨S, 0, none⟩)) rfl (by kernel_rfl) (by kernel_rfl) (by kernel_rfl) (fun _ _ _ h => h) rfl (fun W' => by go_simp) ?_
      refine take_P 1 (v := .pointer (some ⟨S, 0, none⟩)) rfl (by kernel_rfl) (by kernel_rfl) (by kernel_rfl) (fun _ _ _ h => h) rfl (fun W' => by go_simp) ?_
      refine take_P 2 (v := .pointer (some ⟨S, 0, none⟩)) rfl (by kernel_rfl) (by kernel_rfl) (by kernel_rfl) (fun _ _ _ h => h) rfl (fun W' => by go_simp) ?_
      refine take_P 3 (v := .pointer (some ⟨S, 1, none⟩)) rfl (by kernel_rfl) (by kernel_rfl) (by kernel_rfl) (fun _ _ _ h => h) rfl (fun W' => by go_simp) ?_
      refine take_L 4 (v := (.slice (some ⟨g, 0, none⟩) (s.mate.length + 1) c)) rfl (by kernel_rfl) (by kernel_rfl) (by kernel_rfl) (by kernel_rfl) (fun _ _ _ h => h) rfl (fun W' hW' => by have e4 := hW'.bld.blk.cell' 1 rfl; clear hW'; go_simp) hS0 ?_
      refine take_P 5 (v := .int .i64 t) rfl (by kernel_rfl) (by kernel_rfl) (by kernel_rfl) (fun _ _ _ h => h) rfl (fun W' => by go_simp) ?_
      refine take_P 6 (v := .pointer (some ⟨S, 0, none⟩)) rfl (by kernel_rfl) (by kernel_rfl) (by kernel_rfl) (fun _ _ _ h => h) rfl (fun W' => by go_simp) ?_
      refine take_P 7 (v := .pointer (some ⟨S, 0, none⟩)) rfl (by kernel_rfl) (by kernel_rfl) (by kernel_rfl) (fun _ _ _ h => h) rfl (fun W' => by go_simp) ?_
      refine take_P 8 (v := .pointer (some ⟨S, 1, none⟩)) rfl (by kernel_rfl) (by kernel_rfl) (by kernel_rfl) (fun _ _ _ h => h) rfl (fun W' => by go_simp) ?_
      refine take_L 9 (v := (.slice (some ⟨g, 0, none⟩) (s.mate.length + 1) c)) rfl (by kernel_rfl) (by kernel_rfl) (by kernel_rfl) (by kernel_rfl) (fun _ _ _ h => h) rfl (fun W' hW' => by have e4 := hW'.bld.blk.cell' 1 rfl; clear hW'; go_simp) hS0 ?_
      refine take_P 10 (v := .int .i64 i) rfl (by kernel_rfl) (by kernel_rfl) (by kernel_rfl) (fun _ _ _ h => h) rfl (fun W' => by go_simp) ?_
      refine take_P 11 (v := .pointer (some ⟨S, 0, none⟩)) rfl (by kernel_rfl) (by kernel_rfl) (by kernel_rfl) (fun _ _ _ h => h) rfl (fun W' => by go_simp) ?_
      refine take_P 12 (v := .pointer (some ⟨S, 0, none⟩)) rfl (by kernel_rfl) (by kernel_rfl) (by kernel_rfl) (fun _ _ _ h => h) rfl (fun W' => by go_simp) ?_
      refine take_P 13 (v := .pointer (some ⟨S, 2, none⟩)) rfl (by kernel_rfl) (by kernel_rfl) (by kernel_rfl) (fun _ _ _ h => h) rfl (fun W' => by go_simp) ?_
      refine take_L 14 (v := (.slice (some ⟨go, 0, none⟩) (m + 1) co)) rfl (by kernel_rfl) (by kernel_rfl) (by kernel_rfl) (by kernel_rfl) (fun _ _ _ h => h) rfl (fun W' hW' => by have e4 := hW'.bld.blk.cell' 2 rfl; clear hW'; go_simp) hS0 ?_
      refine take_P 15 (v := .int .i64 (m + 1)) rfl (by kernel_rfl) (by kernel_rfl) (by kernel_rfl) (fun _ _ _ h => h) rfl (fun W' => by go_simp) ?_
      refine take_P 16 (v := .int .i64 m) rfl (by kernel_rfl) (by kernel_rfl) (by kernel_rfl) (fun _ _ _ h => h) rfl (fun W' => by have e4 : IntKind.i64.wrap (m : Int) = m := IntWalk.i64_in _ (by omega); go_simp) ?_
      refine take_P 17 (v := .slice (some ⟨go, 0, none⟩) m co) rfl (by kernel_rfl) (by kernel_rfl) (by kernel_rfl) (fun _ _ _ h => h) rfl (fun W' => by go_simp) ?_
      refine take_P 18 (v := .int .i64 i) rfl (by kernel_rfl) (by kernel_rfl) (by kernel_rfl) (fun _ _ _ h => h) rfl (fun W' => by go_simp) ?_
      refine take_P 19 (v := .int .i64 t) rfl (by kernel_rfl) (by kernel_rfl) (by kernel_rfl) (fun _ _ _ h => h) rfl (fun W' => by go_simp) ?_
      refine take_P 20 (v := .pointer (some ⟨S, 0, none⟩)) rfl (by kernel_rfl) (by kernel_rfl) (by kernel_rfl) (fun _ _ _ h => h) rfl (fun W' => by go_simp) ?_
      refine take_P 21 (v := .pointer (some ⟨S, 2, none⟩)) rfl (by kernel_rfl) (by kernel_rfl) (by kernel_rfl) (fun _ _ _ h => h) rfl (fun W' => by go_simp) ?_
      have f22 := hS0.bld.blk.cell 2
      have z22 := hS0.bld.blk.frozen 2
      refine one_L 22 (by kernel_rfl) rfl rfl fun K22 hK22 => ?_
      have HK22 := Lib.hid hK22
      clear hK22
      go_simp
      refine HK22.out _ _ (fun h => absurd h (by decide)) ?_
      have hpo := HSO.out
      rw [HM.out] at hpo
      refine told_L (fun W => AddSt w base S w.heap.size b (pl i) s.progs 0 (s.mate ++ [-1]) s.op.dropLast (numsOf s.progs) (labelsOf bs (lastFirst s.progs) (i + 1)) vp (.slice (some ⟨g, 0, none⟩) (s.mate.length + 1) c) (.slice (some ⟨go, 0, none⟩) m co) bn bl W) hpo fun W6 h6 => ?_
      clear hpo f22 z22 HSO hS0
      have hML : (s.mate ++ [(-1 : Int)]).length = s.mate.length + 1 := by simp
      obtain ⟨g', c', e, _, _, hct, hzt, hcap⟩ := h6.bld.mateAt (k := t) (by have := HMT.out; omega)
      injection e with e1 e2 e3
      injection e1 with e1
      injection e1 with e1
      subst e1 e3
      have HSO := Lib.hid (h6.setMate (k := t) (by rw [hML]) (by have := HMT.out; omega) i)
      have t2 : (t : Int) < (s.mate.length : Int) + 1 := by have := HMT.out; omega
      have t3 : (i : Int) < (s.mate.length : Int) + 1 := by have := HMT.out; omega
      clear e2 hcap hML h6
      refine take_P 23 (v := .pointer (some ⟨g, t, none⟩)) rfl (by kernel_rfl) (by kernel_rfl) (by kernel_rfl) (fun _ _ _ h => h) rfl (fun W' => by go_simp) ?_
      refine one_L 24 (by kernel_rfl) rfl rfl fun K24 hK24 => ?_
      have HK24 := Lib.hid hK24
      clear hK24
      go_simp
      refine HK24.out _ _ (fun h => absurd h (by decide)) ?_
      refine told_L (fun W => AddSt w base S w.heap.size b (pl i) s.progs 0 ((s.mate ++ [-1]).set t i) s.op.dropLast (numsOf s.progs) (labelsOf bs (lastFirst s.progs) (i + 1)) vp (.slice (some ⟨g, 0, none⟩) (s.mate.length + 1) c) (.slice (some ⟨go, 0, none⟩) m co) bn bl W) HSO.out fun W7 h7 => ?_
      clear HSO hct hzt
      have hML : ((s.mate ++ [(-1 : Int)]).set t (i : Int)).length = s.mate.length + 1 := by simp
      obtain ⟨g', c', e, _, _, hct, hzt, hcap⟩ := h7.bld.mateAt (k := i) (by have := HMT.out; omega)
      injection e with e1 e2 e3
      injection e1 with e1
      injection e1 with e1
      subst e1 e3
      have HSO := Lib.hid (h7.setMate (k := i) (by rw [hML]) (by have := HMT.out; omega) t)
      clear e2 hcap hML h7
      refine take_P 25 (v := .pointer (some ⟨g, i, none⟩)) rfl (by kernel_rfl) (by kernel_rfl) (by kernel_rfl) (fun _ _ _ h => h) rfl (fun W' => by go_simp) ?_
      refine one_L 26 (by kernel_rfl) rfl rfl fun K26 hK26 => ?_
      have HK26 := Lib.hid hK26
      clear hK26
      go_simp
      refine HK26.out _ _ (fun h => absurd h (by decide)) ?_
      refine done_L (by kernel_rfl) ?_ _
      refine on_told (fun W => AddSt w base S w.heap.size b (pl i) s.progs 0 (((s.mate ++ [-1]).set t i).set i t) s.op.dropLast (numsOf s.progs) (labelsOf bs (lastFirst s.progs) (i + 1)) vp (.slice (some ⟨g, 0, none⟩) (s.mate.length + 1) c) (.slice (some ⟨go, 0, none⟩) m co) bn bl W) HSO.out fun W8 h8 => ?_
      clear HSO hct hzt HK22 HK24 HK26 htl1 hgl f2 c2
      have H8 := Lib.hid h8
      clear h8
      go_simp
      go_wp2_with fail
      go_ret2
      exact AddPost.ok (HOKS.out HE.out) H8.out.bel ⟨_, _, _, _, _, H8.out.bld⟩ rfl
    · have he' : (nOf bs t != b.n) = true := by simpa using he
      have HE := Lib.hid he
      clear he
      let S0 : World → Prop := fun W => AddSt w base S w.heap.size b (pl i) s.progs 0 (s.mate ++ [-1]) s.op (numsOf s.progs) (labelsOf bs (lastFirst s.progs) (i + 1)) vp (.slice (some ⟨g, 0, none⟩) (s.mate.length + 1) c) (.slice (some ⟨go, 0, none⟩) (m + 1) co) bn bl W
      have hs : S0 _ := H3.out.drew
      have inst : Nonempty (At S0) := ⟨⟨_, hs⟩⟩
      have hST : ∀ p : At S0, AddSt w base S w.heap.size b (pl i) s.progs 0 (s.mate ++ [-1]) s.op (numsOf s.progs) (labelsOf bs (lastFirst s.progs) (i + 1)) vp (.slice (some ⟨g, 0, none⟩) (s.mate.length + 1) c) (.slice (some ⟨go, 0, none⟩) (m + 1) co) bn bl p.w := fun p => p.ok
      have HST := Lib.hid hST
      clear hST
      go_wp2_with fail
      have y0 : ∀ p : At S0, p.w.cell? ⟨S, 2, none⟩ = some (.slice (some ⟨go, 0, none⟩) (m + 1) co) := fun p => (HST.out p).bld.blk.cell' 2 rfl
      have y1 : ∀ p : At S0, p.w.cell? ⟨go, m, none⟩ = some (.int .i64 t) := fun p => by
        obtain ⟨g', e, _, _, hc⟩ := op_at (HST.out p).bld HTM.out
        injection e with e
        injection e with e
        subst e
        exact hc
      have y2 : ∀ p : At S0, p.w.cell? ⟨sb, so + t * 11 + 10, none⟩ = some (.int .i64 (nOf bs t)) := fun p => blk_n (HSRC.out p.w (HST.out p).bel (HST.out p).size) HTL.out.1
      have y3 : ∀ p : At S0, p.w.cell? ⟨w.heap.size, 10, none⟩ = some (.int .i64 b.n) := fun p => (HST.out p).n
      have m0 : (0 : Int) ≤ (m : Int) := by omega
      have t0 : (0 : Int) ≤ (t : Int) := by omega
      have t1 : (t : Int) < (bs.length : Int) := by have := HTL.out; omega
      have m1 : ((m : Int) + 1 == 0) = false := by simp; omega
      clear_value S0
      refine wp_region_at S0 (by kernel_rfl) (by kernel_rfl) hs ?_
      repeat go_big_quiet_step (fail)
      refine wpQuiet_nil ?_
      rintro _ ⟨p, rfl⟩
      have H5 := Lib.hid (HST.out p)
      clear HST y0 y1 y2 y3
      generalize p.w = W5 at *
      go_wp2_with fail
      go_ret2
      exact AddPost.err (HERR.out HE.out) H5.out.bel rfl
set_option maxRecDepth 100000 in
set_option maxHeartbeats 4000000 in
theorem add_end1_new (bs : List BlkL) (a : Option Addr) (cap : Nat) (pl : Nat → Place) (base S i : Nat) (b : BlkL) (s : StL) (w : World) (hsrc : ∀ W, Below base w W → base ≤ W.heap.size → BlksAt W bs a cap pl) (hsz : base ≤ w.heap.size)
    (hb : bs[i]? = some b) (hvs : ∀ (j : Nat) (b : BlkL), bs[j]? = some b → validB b = true) (hok : StOK bs i s) (hlen : bs.length ≤ 2000) (hbld : BldSome base S s.progs s.mate s.op (numsOf s.progs) (labelsOf bs (lastFirst s.progs) i) w)
    (hk : b.kind = 5) (m t : Nat) (hm : s.op.length = m + 1) (ht : topOf s.op = t) (hlab : 0 < b.label ∧ b.label ∉ labelsOf bs (lastFirst s.progs) i) :
    Calls Try.prog 39 #[.pointer (some ⟨S, 0, none⟩), .slice a bs.length cap, .int .i64 i] w (AddPost bs b i s base S w) := by
  have k4 : (b.kind == 4) = false := by simp; omega
  have k5 : (b.kind == 5) = true := by simp; omega
  have k6 : (b.kind == 6) = false := by simp; omega
  have hv := hvs i b hb
  have hpb : progsB b i s = s.progs := if_neg (by omega)
  have l0 : decide (0 < b.label) = true := decide_eq_true hlab.1
  have LMEM := Lib.hid (show decide (b.label ∈ labelsOf bs (lastFirst s.progs) i) = false from decide_eq_false hlab.2)
  have hdl : dupL bs b i s = false := by
    unfold dupL
    rw [hpb]
    exact decide_eq_false fun h => hlab.2 h.2
  have HLABS := Lib.hid (show labelsOf bs (lastFirst s.progs) (i + 1) = labelsOf bs (lastFirst s.progs) i ++ [b.label] by rw [labelsOf_succ hb hok.first, if_pos hlab.1])
  have LWF := Lib.hid (wf_small (x := b.label) (by omega) (by have := valid_label (hvs i b hb); omega))
  have LKWF := Lib.hid (labels_wf hvs (lastFirst s.progs) i)
  have HERR := Lib.hid (fun hs : nOf bs t ≠ b.n => show stepB bs b i s = .err i 11 by
    unfold stepB
    rw [if_neg (by omega), if_neg (by omega), hdl, if_neg (by decide), if_neg (by omega), if_pos hk, if_pos (.inr (by rw [ht]; exact hs))])
  have hne : ¬ (s.op = [] ∨ nOf bs (topOf s.op) ≠ b.n) ∨ nOf bs t ≠ b.n := by
    by_cases h : nOf bs t = b.n
    · left
      rintro (h1 | h1)
      · rw [h1] at hm; cases hm
      · rw [ht] at h1; exact h1 h
    · exact .inr h
  have HOKS := Lib.hid (fun hs : nOf bs t = b.n => show stepB bs b i s = .ok ⟨s.progs, ((s.mate ++ [-1]).set t i).set i t, s.op.dropLast⟩ by
    unfold stepB
    rw [if_neg (by omega), if_neg (by omega), hdl, if_neg (by decide), if_neg (by omega), if_pos hk, if_neg (hne.resolve_right (not_not_intro hs)), hpb, ht])
  clear hk hlab hdl hvs hpb hne
  have hi : i < bs.length := (List.getElem?_eq_some_iff.1 hb).1
  have h0 := hsrc w (Below.refl _ _) hsz
  obtain ⟨hl, sb, so, rfl, hsb, hcc⟩ := h0.tab i hi
  have i0 : (0 : Int) ≤ (i : Int) := by omega
  have i1 : (i : Int) < (bs.length : Int) := by omega
  obtain ⟨vp, vm, vo, bn, bl, hbld⟩ := hbld
  have HOK := Lib.hid hok
  have HSRC := Lib.hid hsrc
  have HB := Lib.hid hb
  have HV := Lib.hid hv
  have hop := hok.few
  have hmt := hok.mate
  obtain ⟨lo, co, rfl⟩ := own_form hbld.op
  have hml : m < i := by have := hok.few; omega
  have htl : t < i := hok.op t (by rw [← ht]; exact topOf_mem (by intro e; rw [e] at hm; cases hm))
  have htm : s.op[m]? = some t := by
    have := topOf_at (l := s.op) (by intro e; rw [e] at hm; cases hm)
    rw [hm, ht] at this
    simpa using this
  rw [hm] at hbld
  obtain ⟨go, rfl, hgo1, hgo2, _⟩ := op_at hbld htm
  have hco := hbld.opCap rfl
  rw [hm] at hco
  have HTM := Lib.hid htm
  have HM := Lib.hid hm
  have HTL := Lib.hid (show t < bs.length ∧ t < i by omega)
  clear hm ht htm hgo1 hgo2
  have HBLD := Lib.hid hbld
  have HMT := Lib.hid hmt
  have HSZ := Lib.hid hsz
  have hrow0 : ∀ j v, (blkC b (pl i))[j]? = some v → w.cell? ⟨sb, so + i * 11 + j, none⟩ = some v := fun j v hv => by
    rw [hcc j (by have := (List.getElem?_eq_some_iff.1 hv).1; simpa [blkC] using this), blksC_at HB.out]; exact hv
  have HR0 := Lib.hid hrow0
  clear hbld hok hsrc hb hv h0 hl hcc hmt hsz hrow0 hsb
  go_enter Try.func39, Try.ntmps39
  go_wp2_with fail
  refine region_L (fun W => (∀ j v, (blkC b (pl i))[j]? = some v → W.cell? ⟨sb, so + i * 11 + j, none⟩ = some v) ∧ W.cell? ⟨S, 2, none⟩ = some (.slice (some ⟨go, 0, none⟩) (m + 1) co)) [] (by kernel_rfl) ?_
  have hS0 : (∀ j v, (blkC b (pl i))[j]? = some v → w.drew.cell? ⟨sb, so + i * 11 + j, none⟩ = some v) ∧ w.drew.cell? ⟨S, 2, none⟩ = some (.slice (some ⟨go, 0, none⟩) (m + 1) co) := ⟨HR0.out, HBLD.out.blk.cell' 2 rfl⟩
  refine take_P 0 (v := .slice (some ⟨sb, so, none⟩) bs.length cap) rfl (by kernel_rfl) (by kernel_rfl) (by kernel_rfl) (fun _ _ _ h => h) rfl (fun W' => by go_simp) ?_
  refine take_P 1 (v := .int .i64 i) rfl (by kernel_rfl) (by kernel_rfl) (by kernel_rfl) (fun _ _ _ h => h) rfl (fun W' => by go_simp) ?_
  refine take_P 2 (v := .pointer (some ⟨sb, so + i * 11, none⟩)) rfl (by kernel_rfl) (by kernel_rfl) (by kernel_rfl) (fun _ _ _ h => h) rfl (fun W' => by go_simp) ?_
  refine take_L 3 (v := .agg (blkC b (pl i)).toArray) rfl (by kernel_rfl) (by kernel_rfl) (by kernel_rfl) (by kernel_rfl) (fun _ _ _ h => h) rfl (fun W' hW' => by exact exec_load 37 (.tmp 15) rfl ⟨sb, so + i * 11, none⟩ _ (by go_simp) (run_loadAt_mid W' sb (so + i * 11) 37 (blkC b (pl i)) _ hW'.1 Try.underlying37 rfl (by kernel_rfl))) hS0 ?_
  refine take_P 4 (v := .pointer (some ⟨S, 0, none⟩)) rfl (by kernel_rfl) (by kernel_rfl) (by kernel_rfl) (fun _ _ _ h => h) rfl (fun W' => by go_simp) ?_
  refine take_P 5 (v := .pointer (some ⟨S, 0, none⟩)) rfl (by kernel_rfl) (by kernel_rfl) (by kernel_rfl) (fun _ _ _ h => h) rfl (fun W' => by go_simp) ?_
  refine take_P 6 (v := .pointer (some ⟨S, 2, none⟩)) rfl (by kernel_rfl) (by kernel_rfl) (by kernel_rfl) (fun _ _ _ h => h) rfl (fun W' => by go_simp) ?_
  refine take_L 7 (v := .slice (some ⟨go, 0, none⟩) (m + 1) co) rfl (by kernel_rfl) (by kernel_rfl) (by kernel_rfl) (by kernel_rfl) (fun _ _ _ h => h) rfl (fun W' hW' => by have e2 := hW'.2; clear hW'; go_simp) hS0 ?_
  refine take_P 8 (v := .int .i64 (m + 1)) rfl (by kernel_rfl) (by kernel_rfl) (by kernel_rfl) (fun _ _ _ h => h) rfl (fun W' => by go_simp) ?_
  have hkeep : ∀ o : Obj, (∀ j v, (blkC b (pl i))[j]? = some v → (w.drew.alloc o).cell? ⟨sb, so + i * 11 + j, none⟩ = some v) ∧ (w.drew.alloc o).cell? ⟨S, 2, none⟩ = some (.slice (some ⟨go, 0, none⟩) (m + 1) co) := fun o => by
    have hb1 : Below w.heap.size w (w.drew.alloc o) := ((Below.refl _ _).drew).alloc (Nat.le_refl _) o
    exact ⟨fun j v hv => (hb1.cell (p := ⟨sb, so + i * 11 + j, none⟩) (block_lt_of_cell (HR0.out j v hv))).trans (HR0.out j v hv), (HBLD.out.blk.below hb1 HBLD.out.blk.lt).cell' 2 rfl⟩
  refine one_L 9 (by kernel_rfl) rfl rfl fun K9 hK9 => ?_
  have HK9 := Lib.hid hK9
  clear hK9
  go_simp
  refine HK9.out _ _ (fun _ _ => hkeep _) ?_
  refine one_L 10 (by kernel_rfl) rfl rfl fun K10 hK10 => ?_
  have HK10 := Lib.hid hK10
  clear hK10
  refine wp_store_new (w := w.drew) 37 (.tmp 8) (.tmp 16) rfl #[.int .i64 0, .int .i64 0, .bool false, .slice none 0 0, .int .i64 0, .int .i64 0, .slice none 0 0, .int .i64 0, .int .i64 0, .slice none 0 0, .int .i64 0] (blkC b (pl i)).toArray rfl rfl (by kernel_rfl) rfl (all_oneCell_toArray blkC_one) ?_
  refine HK10.out _ _ (fun _ _ => hkeep _) ?_
  refine one_L 11 (by kernel_rfl) rfl rfl fun K11 hK11 => ?_
  have HK11 := Lib.hid hK11
  clear hK11
  go_simp
  refine HK11.out _ _ (fun _ _ => hkeep _) ?_
  refine done_L (by kernel_rfl) ?_ _
  have hst : AddSt w base S w.heap.size b (pl i) s.progs 0 s.mate s.op (numsOf s.progs) (labelsOf bs (lastFirst s.progs) i) vp vm (.slice (some ⟨go, 0, none⟩) (m + 1) co) bn bl (w.drew.alloc (.cells (blkC b (pl i)).toArray 37)) := by
    have hb1 : Below w.heap.size w (w.drew.alloc (.cells (blkC b (pl i)).toArray 37)) := ((Below.refl _ _).drew).alloc (Nat.le_refl _) _
    refine ⟨HBLD.out.under hb1, Blk.new w.drew 37 _, hb1.mono HSZ.out, by have := HSZ.out; simp; omega⟩
  refine on_told (fun W => AddSt w base S w.heap.size b (pl i) s.progs 0 s.mate s.op (numsOf s.progs) (labelsOf bs (lastFirst s.progs) i) vp vm (.slice (some ⟨go, 0, none⟩) (m + 1) co) bn bl W) hst fun W1 h1 => ?_
  clear hst hkeep hS0 HK9 HK10 HK11
  have H1 := Lib.hid h1
  have f1 := h1.bld.blk.cell 1
  have HM1 := Lib.hid (h1.bld.mate.alloc (.cells #[.int .i64 (-1)] 3))
  have HB1 := Lib.hid (Blk.new W1 3 #[.int .i64 (-1)])
  have HL1 := Lib.hid (show base ≤ (W1.alloc (.cells #[.int .i64 (-1)] 3)).heap.size by have := h1.size; simp; omega)
  clear h1
  go_simp
  go_wp2_with (at_builtin; refine wpList_push rfl (.tmp 26) (.tmp 27) 23 rfl base 3 (.int .i64 0) 1 8 Try.underlying23 infoInt rfl (by decide) (by decide) vm s.mate.length (intC s.mate) rfl HM1.out W1.heap.size [.int .i64 (-1)] rfl HB1.out rfl (by simp [Value.oneCell']) ?c1 HL1.out ?c2)
  case c1 => have := HMT.out; omega
  case c2 =>
    intro g c w2 hp
    have h2 := H1.out
    have hb1 : Below W1.heap.size W1 (W1.alloc (.cells #[.int .i64 (-1)] 3)) := (Below.refl _ _).alloc (Nat.le_refl _) _
    have hbl2 := (h2.bld.under hb1).pushMate hp
    have hS2 : Blk w2 S 69 _ := (h2.bld.blk.alloc _).grown hp.grown (own_ne h2.bld.mate h2.bld.blk (by decide))
    have hN2 : Blk w2 w.heap.size 37 (blkC b (pl i)).toArray := (h2.blk.alloc _).grown hp.grown (own_ne h2.bld.mate h2.blk (by decide))
    have hsz2 := h2.size
    have hsl2 := hp.grown.size
    have hst : AddSt w base S w.heap.size b (pl i) s.progs 0 (s.mate ++ [-1]) s.op (numsOf s.progs) (labelsOf bs (lastFirst s.progs) i) vp (.slice (some ⟨g, 0, none⟩) (s.mate.length + 1) c) (.slice (some ⟨go, 0, none⟩) (m + 1) co) bn bl (w2.setCell ⟨S, 1, none⟩ (.slice (some ⟨g, 0, none⟩) (s.mate.length + 1) c)) := by
      refine ⟨hbl2, hN2.far (p := ⟨S, 1, none⟩) (fun e => ?_) _, ?_, by simp at hsl2 ⊢; omega⟩
      · have e' : w.heap.size = S := e
        rw [e'] at hN2
        unfold Blk at hN2 hS2
        rw [hS2] at hN2
        injection hN2 with hN2
        injection hN2 with _ hN2
        exact absurd hN2 (by decide)
      · exact ((h2.bel.alloc hsz2 _).trans (below_of_grown hp.grown (by simp; omega) (fun k e => (h2.bld.mate.lt k e).1))).setCell h2.bld.far.1 _
    have HST := Lib.hid hst
    have t1 := hS2.cell 1
    have z1 := hS2.frozen 1
    clear hst hp hS2 hN2 hbl2 h2 hb1 hsl2
    go_upto_region 3 with (fail)
    refine on_told (fun W => AddSt w base S w.heap.size b (pl i) s.progs 0 (s.mate ++ [-1]) s.op (numsOf s.progs) (labelsOf bs (lastFirst s.progs) i) vp (.slice (some ⟨g, 0, none⟩) (s.mate.length + 1) c) (.slice (some ⟨go, 0, none⟩) (m + 1) co) bn bl W) HST.out fun W2 h2 => ?_
    clear HST t1 z1 HM1 HB1 HL1 H1 f1
    have H2 := Lib.hid h2
    have n0 := h2.kind
    have n1 := h2.label
    have n6 := h2.n
    clear h2
    go_wp2_with fail
    refine region_L (fun W => AddSt w base S w.heap.size b (pl i) s.progs 0 (s.mate ++ [-1]) s.op (numsOf s.progs) (labelsOf bs (lastFirst s.progs) i) vp (.slice (some ⟨g, 0, none⟩) (s.mate.length + 1) c) (.slice (some ⟨go, 0, none⟩) (m + 1) co) bn bl W) [] (by kernel_rfl) ?_
    have hS0 := H2.out.drew
    refine take_P 0 (v := .pointer (some ⟨S, 0, none⟩)) rfl (by kernel_rfl) (by kernel_rfl) (by kernel_rfl) (fun _ _ _ h => h) rfl (fun W' => by go_simp) ?_
    refine take_P 1 (v := .pointer (some ⟨S, 0, none⟩)) rfl (by kernel_rfl) (by kernel_rfl) (by kernel_rfl) (fun _ _ _ h => h) rfl (fun W' => by go_simp) ?_
    refine take_P 2 (v := .pointer (some ⟨S, 4, none⟩)) rfl (by kernel_rfl) (by kernel_rfl) (by kernel_rfl) (fun _ _ _ h => h) rfl (fun W' => by go_simp) ?_
    refine take_L 3 (v := .map (some bl)) rfl (by kernel_rfl) (by kernel_rfl) (by kernel_rfl) (by kernel_rfl) (fun _ _ _ h => h) rfl (fun W' hW' => by have e4 := hW'.bld.blk.cell' 4 rfl; clear hW'; go_simp) hS0 ?_
    refine take_P 4 (v := .pointer (some ⟨w.heap.size, 1, none⟩)) rfl (by kernel_rfl) (by kernel_rfl) (by kernel_rfl) (fun _ _ _ h => h) rfl (fun W' => by go_simp) ?_
    refine take_L 5 (v := .int .i64 b.label) rfl (by kernel_rfl) (by kernel_rfl) (by kernel_rfl) (by kernel_rfl) (fun _ _ _ h => h) rfl (fun W' hW' => by have e4 := hW'.label; clear hW'; go_simp) hS0 ?_
    refine take_L 6 (v := .bool false) rfl (by kernel_rfl) (by kernel_rfl) (by kernel_rfl) (by kernel_rfl) (fun _ _ _ h => h) rfl (fun W' hW' => by exact exec_lookup 67 (.tmp 94) (.tmp 96) rfl (.map (some bl)) (.int .i64 b.label) (.bool false) (by go_simp) (by go_simp) (by have h9 := hW'.bld.labs.look Try.underlying3 Try.underlying67 (zero_bool W') LWF.out LKWF.out; rw [LMEM.out] at h9; exact h9)) hS0 ?_
    refine done_L (by kernel_rfl) ?_ _
    refine on_told (fun W => AddSt w base S w.heap.size b (pl i) s.progs 0 (s.mate ++ [-1]) s.op (numsOf s.progs) (labelsOf bs (lastFirst s.progs) i) vp (.slice (some ⟨g, 0, none⟩) (s.mate.length + 1) c) (.slice (some ⟨go, 0, none⟩) (m + 1) co) bn bl W) hS0 fun W3 h3 => ?_
    clear hS0 H2 n0 n1 n6
    have H2 := Lib.hid h3
    have n0 := h3.kind
    have n1 := h3.label
    have n6 := h3.n
    clear h3
    go_simp
    go_wp2_with fail
    refine region_L (fun W => AddSt w base S w.heap.size b (pl i) s.progs 0 (s.mate ++ [-1]) s.op (numsOf s.progs) (labelsOf bs (lastFirst s.progs) i) vp (.slice (some ⟨g, 0, none⟩) (s.mate.length + 1) c) (.slice (some ⟨go, 0, none⟩) (m + 1) co) bn bl W) [6] (by kernel_rfl) ?_
    have hS0 := H2.out.drew
    refine take_P 0 (v := .pointer (some ⟨S, 0, none⟩)) rfl (by kernel_rfl) (by kernel_rfl) (by kernel_rfl) (fun _ _ _ h => h) rfl (fun W' => by go_simp) ?_
    refine take_P 1 (v := .pointer (some ⟨S, 0, none⟩)) rfl (by kernel_rfl) (by kernel_rfl) (by kernel_rfl) (fun _ _ _ h => h) rfl (fun W' => by go_simp) ?_
    refine take_P 2 (v := .pointer (some ⟨S, 4, none⟩)) rfl (by kernel_rfl) (by kernel_rfl) (by kernel_rfl) (fun _ _ _ h => h) rfl (fun W' => by go_simp) ?_
    refine take_L 3 (v := .map (some bl)) rfl (by kernel_rfl) (by kernel_rfl) (by kernel_rfl) (by kernel_rfl) (fun _ _ _ h => h) rfl (fun W' hW' => by have e4 := hW'.bld.blk.cell' 4 rfl; clear hW'; go_simp) hS0 ?_
    refine take_P 4 (v := .pointer (some ⟨w.heap.size, 1, none⟩)) rfl (by kernel_rfl) (by kernel_rfl) (by kernel_rfl) (fun _ _ _ h => h) rfl (fun W' => by go_simp) ?_
    refine take_L 5 (v := .int .i64 b.label) rfl (by kernel_rfl) (by kernel_rfl) (by kernel_rfl) (by kernel_rfl) (fun _ _ _ h => h) rfl (fun W' hW' => by have e4 := hW'.label; clear hW'; go_simp) hS0 ?_
    obtain ⟨w9, hrun, hset, hgr⟩ := hS0.bld.labs.store (P := Try.prog) Try.underlying3 Try.underlying67 LWF.out LKWF.out (of_decide_eq_false LMEM.out)
    have hst9 : AddSt w base S w.heap.size b (pl i) s.progs 0 (s.mate ++ [-1]) s.op (numsOf s.progs) (labelsOf bs (lastFirst s.progs) (i + 1)) vp (.slice (some ⟨g, 0, none⟩) (s.mate.length + 1) c) (.slice (some ⟨go, 0, none⟩) (m + 1) co) bn bl w9 := by
      rw [HLABS.out]
      exact add_lab hS0 hset hgr
    refine one_L 6 (by kernel_rfl) rfl rfl fun K6 hK6 => ?_
    have HK6 := Lib.hid hK6
    clear hK6
    go_simp
    refine HK6.out _ _ (fun h => absurd h (by decide)) ?_
    refine done_L (by kernel_rfl) ?_ _
    refine on_told (fun W => AddSt w base S w.heap.size b (pl i) s.progs 0 (s.mate ++ [-1]) s.op (numsOf s.progs) (labelsOf bs (lastFirst s.progs) (i + 1)) vp (.slice (some ⟨g, 0, none⟩) (s.mate.length + 1) c) (.slice (some ⟨go, 0, none⟩) (m + 1) co) bn bl W) hst9 fun W3 h3 => ?_
    clear hS0 H2 n0 n1 n6 hst9 hrun hset hgr HK6
    have H3 := Lib.hid h3
    have n0 := h3.kind
    have n1 := h3.label
    have n6 := h3.n
    clear h3
    go_simp
    by_cases he : nOf bs t = b.n
    · have he' : (nOf bs t != b.n) = false := by simpa using he
      have HE := Lib.hid he
      clear he
      let S0 : World → Prop := fun W => AddSt w base S w.heap.size b (pl i) s.progs 0 (s.mate ++ [-1]) s.op (numsOf s.progs) (labelsOf bs (lastFirst s.progs) (i + 1)) vp (.slice (some ⟨g, 0, none⟩) (s.mate.length + 1) c) (.slice (some ⟨go, 0, none⟩) (m + 1) co) bn bl W
      have hs : S0 _ := H3.out.drew
      have inst : Nonempty (At S0) := ⟨⟨_, hs⟩⟩
      have hST : ∀ p : At S0, AddSt w base S w.heap.size b (pl i) s.progs 0 (s.mate ++ [-1]) s.op (numsOf s.progs) (labelsOf bs (lastFirst s.progs) (i + 1)) vp (.slice (some ⟨g, 0, none⟩) (s.mate.length + 1) c) (.slice (some ⟨go, 0, none⟩) (m + 1) co) bn bl p.w := fun p => p.ok
      have HST := Lib.hid hST
      clear hST
      go_wp2_with fail
      have y0 : ∀ p : At S0, p.w.cell? ⟨S, 2, none⟩ = some (.slice (some ⟨go, 0, none⟩) (m + 1) co) := fun p => (HST.out p).bld.blk.cell' 2 rfl
      have y1 : ∀ p : At S0, p.w.cell? ⟨go, m, none⟩ = some (.int .i64 t) := fun p => by
        obtain ⟨g', e, _, _, hc⟩ := op_at (HST.out p).bld HTM.out
        injection e with e
        injection e with e
        subst e
        exact hc
      have y2 : ∀ p : At S0, p.w.cell? ⟨sb, so + t * 11 + 10, none⟩ = some (.int .i64 (nOf bs t)) := fun p => blk_n (HSRC.out p.w (HST.out p).bel (HST.out p).size) HTL.out.1
      have y3 : ∀ p : At S0, p.w.cell? ⟨w.heap.size, 10, none⟩ = some (.int .i64 b.n) := fun p => (HST.out p).n
      have m0 : (0 : Int) ≤ (m : Int) := by omega
      have t0 : (0 : Int) ≤ (t : Int) := by omega
      have t1 : (t : Int) < (bs.length : Int) := by have := HTL.out; omega
      have m1 : ((m : Int) + 1 == 0) = false := by simp; omega
      clear_value S0
      refine wp_region_at S0 (by kernel_rfl) (by kernel_rfl) hs ?_
      repeat go_big_quiet_step (fail)
      refine wpQuiet_nil ?_
      rintro _ ⟨p, rfl⟩
      have H5 := Lib.hid (HST.out p)
      clear HST y0 y1 y2 y3
      generalize p.w = W5 at *
      have f2 := H5.out.bld.blk.cell 2
      have c2 : W5.cell? ⟨go, m, none⟩ = some (.int .i64 t) := by
        obtain ⟨g', e, _, _, hc⟩ := op_at H5.out.bld HTM.out
        injection e with e
        injection e with e
        subst e
        exact hc
      go_wp2_with fail
      refine region_L (fun W => AddSt w base S w.heap.size b (pl i) s.progs 0 (s.mate ++ [-1]) s.op (numsOf s.progs) (labelsOf bs (lastFirst s.progs) (i + 1)) vp (.slice (some ⟨g, 0, none⟩) (s.mate.length + 1) c) (.slice (some ⟨go, 0, none⟩) (m + 1) co) bn bl W) [22, 24, 26] (by kernel_rfl) ?_
      have hS0 := H5.out.drew
      have hML : (s.mate ++ [(-1 : Int)]).length = s.mate.length + 1 := by simp
      have htl1 := HTL.out
      obtain ⟨g', c', e, _, hgl, hct, hzt, hcap⟩ := hS0.bld.mateAt (k := t) (by have := HMT.out; omega)
      injection e with e1 e2 e3
      injection e1 with e1
      injection e1 with e1
      subst e1 e3
      have HSO := Lib.hid (hS0.popOp (go := go) (co := co) (by rw [HM.out]))
      have hsl1 : (m : Int) ≤ (co : Int) := by omega
      clear e2 hML hcap hct hzt
      refine take_P 0 (v := .pointer (some ⟨S, 0, none⟩)) rfl (by kernel_rfl) (by kernel_rfl) (by kernel_rfl) (fun _ _ _ h => h) rfl (fun W' => by go_simp) ?_
      refine take_P 1 (v := .pointer (some ⟨S, 0, none⟩)) rfl (by kernel_rfl) (by kernel_rfl) (by kernel_rfl) (fun _ _ _ h => h) rfl (fun W' => by go_simp) ?_
      refine take_P 2 (v := .pointer (some ⟨S, 0, none⟩)) rfl (by kernel_rfl) (by kernel_rfl) (by kernel_rfl) (fun _ _ _ h => h) rfl (fun W' => by go_simp) ?_
      refine take_P 3 (v := .pointer (some ⟨S, 1, none⟩)) rfl (by kernel_rfl) (by kernel_rfl) (by kernel_rfl) (fun _ _ _ h => h) rfl (fun W' => by go_simp) ?_
      refine take_L 4 (v := (.slice (some ⟨g, 0, none⟩) (s.mate.length + 1) c)) rfl (by kernel_rfl) (by kernel_rfl) (by kernel_rfl) (by kernel_rfl) (fun _ _ _ h => h) rfl (fun W' hW' => by have e4 := hW'.bld.blk.cell' 1 rfl; clear hW'; go_simp) hS0 ?_
      refine take_P 5 (v := .int .i64 t) rfl (by kernel_rfl) (by kernel_rfl) (by kernel_rfl) (fun _ _ _ h => h) rfl (fun W' => by go_simp) ?_
      refine take_P 6 (v := .pointer (some ⟨S, 0, none⟩)) rfl (by kernel_rfl) (by kernel_rfl) (by kernel_rfl) (fun _ _ _ h => h) rfl (fun W' => by go_simp) ?_
      refine take_P 7 (v := .pointer (some ⟨S, 0, none⟩)) rfl (by kernel_rfl) (by kernel_rfl) (by kernel_rfl) (fun _ _ _ h => h) rfl (fun W' => by go_simp) ?_
      refine take_P 8 (v := .pointer (some ⟨S, 1, none⟩)) rfl (by kernel_rfl) (by kernel_rfl) (by kernel_rfl) (fun _ _ _ h => h) rfl (fun W' => by go_simp) ?_
      refine take_L 9 (v := (.slice (some ⟨g, 0, none⟩) (s.mate.length + 1) c)) rfl (by kernel_rfl) (by kernel_rfl) (by kernel_rfl) (by kernel_rfl) (fun _ _ _ h => h) rfl (fun W' hW' => by have e4 := hW'.bld.blk.cell' 1 rfl; clear hW'; go_simp) hS0 ?_
      refine take_P 10 (v := .int .i64 i) rfl (by kernel_rfl) (by kernel_rfl) (by kernel_rfl) (fun _ _ _ h => h) rfl (fun W' => by go_simp) ?_
      refine take_P 11 (v := .pointer (some ⟨S, 0, none⟩)) rfl (by kernel_rfl) (by kernel_rfl) (by kernel_rfl) (fun _ _ _ h => h) rfl (fun W' => by go_simp) ?_
      refine take_P 12 (v := .pointer (some ⟨S, 0, none⟩)) rfl (by kernel_rfl) (by kernel_rfl) (by kernel_rfl) (fun _ _ _ h => h) rfl (fun W' => by go_simp) ?_
      refine take_P 13 (v := .pointer (some ⟨S, 2, none⟩)) rfl (by kernel_rfl) (by kernel_rfl) (by kernel_rfl) (fun _ _ _ h => h) rfl (fun W' => by go_simp) ?_
      refine take_L 14 (v := (.slice (some ⟨go, 0, none⟩) (m + 1) co)) rfl (by kernel_rfl) (by kernel_rfl) (by kernel_rfl) (by kernel_rfl) (fun _ _ _ h => h) rfl (fun W' hW' => by have e4 := hW'.bld.blk.cell' 2 rfl; clear hW'; go_simp) hS0 ?_
      refine take_P 15 (v := .int .i64 (m + 1)) rfl (by kernel_rfl) (by kernel_rfl) (by kernel_rfl) (fun _ _ _ h => h) rfl (fun W' => by go_simp) ?_
      refine take_P 16 (v := .int .i64 m) rfl (by kernel_rfl) (by kernel_rfl) (by kernel_rfl) (fun _ _ _ h => h) rfl (fun W' => by have e4 : IntKind.i64.wrap (m : Int) = m := IntWalk.i64_in _ (by omega); go_simp) ?_
      refine take_P 17 (v := .slice (some ⟨go, 0, none⟩) m co) rfl (by kernel_rfl) (by kernel_rfl) (by kernel_rfl) (fun _ _ _ h => h) rfl (fun W' => by go_simp) ?_
      refine take_P 18 (v := .int .i64 i) rfl (by kernel_rfl) (by kernel_rfl) (by kernel_rfl) (fun _ _ _ h => h) rfl (fun W' => by go_simp) ?_
      refine take_P 19 (v := .int .i64 t) rfl (by kernel_rfl) (by kernel_rfl) (by kernel_rfl) (fun _ _ _ h => h) rfl (fun W' => by go_simp) ?_
      refine take_P 20 (v := .pointer (some ⟨S, 0, none⟩)) rfl (by kernel_rfl) (by kernel_rfl) (by kernel_rfl) (fun _ _ _ h => h) rfl (fun W' => by go_simp) ?_
      refine take_P 21 (v := .pointer (some ⟨S, 2, none⟩)) rfl (by kernel_rfl) (by kernel_rfl) (by kernel_rfl) (fun _ _ _ h => h) rfl (fun W' => by go_simp) ?_
      have f22 := hS0.bld.blk.cell 2
      have z22 := hS0.bld.blk.frozen 2
      refine one_L 22 (by kernel_rfl) rfl rfl fun K22 hK22 => ?_
      have HK22 := Lib.hid hK22
      clear hK22
      go_simp
      refine HK22.out _ _ (fun h => absurd h (by decide)) ?_
      have hpo := HSO.out
      rw [HM.out] at hpo
      refine told_L (fun W => AddSt w base S w.heap.size b (pl i) s.progs 0 (s.mate ++ [-1]) s.op.dropLast (numsOf s.progs) (labelsOf bs (lastFirst s.progs) (i + 1)) vp (.slice (some ⟨g, 0, none⟩) (s.mate.length + 1) c) (.slice (some ⟨go, 0, none⟩) m co) bn bl W) hpo fun W6 h6 => ?_
      clear hpo f22 z22 HSO hS0
      have hML : (s.mate ++ [(-1 : Int)]).length = s.mate.length + 1 := by simp
      obtain ⟨g', c', e, _, _, hct, hzt, hcap⟩ := h6.bld.mateAt (k := t) (by have := HMT.out; omega)
      injection e with e1 e2 e3
      injection e1 with e1
      injection e1 with e1
      subst e1 e3
      have HSO := Lib.hid (h6.setMate (k := t) (by rw [hML]) (by have := HMT.out; omega) i)
      have t2 : (t : Int) < (s.mate.length : Int) + 1 := by have := HMT.out; omega
      have t3 : (i : Int) < (s.mate.length : Int) + 1 := by have := HMT.out; omega
      clear e2 hcap hML h6
      refine take_P 23 (v := .pointer (some ⟨g, t, none⟩)) rfl (by kernel_rfl) (by kernel_rfl) (by kernel_rfl) (fun _ _ _ h => h) rfl (fun W' => by go_simp) ?_
      refine one_L 24 (by kernel_rfl) rfl rfl fun K24 hK24 => ?_
      have HK24 := Lib.hid hK24
      clear hK24
      go_simp
      refine HK24.out _ _ (fun h => absurd h (by decide)) ?_
      refine told_L (fun W => AddSt w base S w.heap.size b (pl i) s.progs 0 ((s.mate ++ [-1]).set t i) s.op.dropLast (numsOf s.progs) (labelsOf bs (lastFirst s.progs) (i + 1)) vp (.slice (some ⟨g, 0, none⟩) (s.mate.length + 1) c) (.slice (some ⟨go, 0, none⟩) m co) bn bl W) HSO.out fun W7 h7 => ?_
      clear HSO hct hzt
      have hML : ((s.mate ++ [(-1 : Int)]).set t (i : Int)).length = s.mate.length + 1 := by simp
      obtain ⟨g', c', e, _, _, hct, hzt, hcap⟩ := h7.bld.mateAt (k := i) (by have := HMT.out; omega)
      injection e with e1 e2 e3
      injection e1 with e1
      injection e1 with e1
      subst e1 e3
      have HSO := Lib.hid (h7.setMate (k := i) (by rw [hML]) (by have := HMT.out; omega) t)
      clear e2 hcap hML h7
      refine take_P 25 (v := .pointer (some ⟨g, i, none⟩)) rfl (by kernel_rfl) (by kernel_rfl) (by kernel_rfl) (fun _ _ _ h => h) rfl (fun W' => by go_simp) ?_
      refine one_L 26 (by kernel_rfl) rfl rfl fun K26 hK26 => ?_
      have HK26 := Lib.hid hK26
      clear hK26
      go_simp
      refine HK26.out _ _ (fun h => absurd h (by decide)) ?_
      refine done_L (by kernel_rfl) ?_ _
      refine on_told (fun W => AddSt w base S w.heap.size b (pl i) s.progs 0 (((s.mate ++ [-1]).set t i).set i t) s.op.dropLast (numsOf s.progs) (labelsOf bs (lastFirst s.progs) (i + 1)) vp (.slice (some ⟨g, 0, none⟩) (s.mate.length + 1) c) (.slice (some ⟨go, 0, none⟩) m co) bn bl W) HSO.out fun W8 h8 => ?_
      clear HSO hct hzt HK22 HK24 HK26 htl1 hgl f2 c2
      have H8 := Lib.hid h8
      clear h8
      go_simp
      go_wp2_with fail
      go_ret2
      exact AddPost.ok (HOKS.out HE.out) H8.out.bel ⟨_, _, _, _, _, H8.out.bld⟩ rfl
    · have he' : (nOf bs t != b.n) = true := by simpa using he
      have HE := Lib.hid he
      clear he
      let S0 : World → Prop := fun W => AddSt w base S w.heap.size b (pl i) s.progs 0 (s.mate ++ [-1]) s.op (numsOf s.progs) (labelsOf bs (lastFirst s.progs) (i + 1)) vp (.slice (some ⟨g, 0, none⟩) (s.mate.length + 1) c) (.slice (some ⟨go, 0, none⟩) (m + 1) co) bn bl W
      have hs : S0 _ := H3.out.drew
      have inst : Nonempty (At S0) := ⟨⟨_, hs⟩⟩
      have hST : ∀ p : At S0, AddSt w base S w.heap.size b (pl i) s.progs 0 (s.mate ++ [-1]) s.op (numsOf s.progs) (labelsOf bs (lastFirst s.progs) (i + 1)) vp (.slice (some ⟨g, 0, none⟩) (s.mate.length + 1) c) (.slice (some ⟨go, 0, none⟩) (m + 1) co) bn bl p.w := fun p => p.ok
      have HST := Lib.hid hST
      clear hST
      go_wp2_with fail
      have y0 : ∀ p : At S0, p.w.cell? ⟨S, 2, none⟩ = some (.slice (some ⟨go, 0, none⟩) (m + 1) co) := fun p => (HST.out p).bld.blk.cell' 2 rfl
      have y1 : ∀ p : At S0, p.w.cell? ⟨go, m, none⟩ = some (.int .i64 t) := fun p => by
        obtain ⟨g', e, _, _, hc⟩ := op_at (HST.out p).bld HTM.out
        injection e with e
        injection e with e
        subst e
        exact hc
      have y2 : ∀ p : At S0, p.w.cell? ⟨sb, so + t * 11 + 10, none⟩ = some (.int .i64 (nOf bs t)) := fun p => blk_n (HSRC.out p.w (HST.out p).bel (HST.out p).size) HTL.out.1
      have y3 : ∀ p : At S0, p.w.cell? ⟨w.heap.size, 10, none⟩ = some (.int .i64 b.n) := fun p => (HST.out p).n
      have m0 : (0 : Int) ≤ (m : Int) := by omega
      have t0 : (0 : Int) ≤ (t : Int) := by omega
      have t1 : (t : Int) < (bs.length : Int) := by have := HTL.out; omega
      have m1 : ((m : Int) + 1 == 0) = false := by simp; omega
      clear_value S0
      refine wp_region_at S0 (by kernel_rfl) (by kernel_rfl) hs ?_
      repeat go_big_quiet_step (fail)
      refine wpQuiet_nil ?_
      rintro _ ⟨p, rfl⟩
      have H5 := Lib.hid (HST.out p)
      clear HST y0 y1 y2 y3
      generalize p.w = W5 at *
      go_wp2_with fail
      go_ret2
      exact AddPost.err (HERR.out HE.out) H5.out.bel rfl
end Go.Proofs.Yteiogjgmedikhaa
