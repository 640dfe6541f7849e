/-
  library's add.
-/
import Derived.Test.YteiogjgmedikhaaAddL09
namespace Go.Proofs.Yteiogjgmedikhaa
open Go Go.RowKit
set_option linter.unusedVariables false


set_option maxRecDepth 100000 in
set_option maxHeartbeats 4000000 in
theorem add_dup (bs : List BlkL) (a : Option Addr) (cap : Nat) (pl : Nat → Place) (base S i : Nat) (b : BlkL) (s : StL) (w : World) (hsrc : ∀ W, Below base w W → base ≤ W.heap.size → BlksAt W bs a cap pl) (hsz : base ≤ w.heap.size)
    (hb : bs[i]? = some b) (hvs : ∀ (j : Nat) (b : BlkL), bs[j]? = some b → validB b = true) (hok : StOK bs i s) (hlen : bs.length ≤ 2000) (hbld : BldSome base S s.progs s.mate s.op (numsOf s.progs) (labelsOf bs (lastFirst s.progs) i) w)
    (hk : b.kind ≠ 6) (hlab : 0 < b.label ∧ b.label ∈ labelsOf bs (lastFirst s.progs) i) :
    Calls Try.prog 39 #[.pointer (some ⟨S, 0, none⟩), .slice a bs.length cap, .int .i64 i] w (AddPost bs b i s base S w) := by
  have k6 : (b.kind == 6) = false := by simpa using hk
  have hpb : progsB b i s = s.progs := if_neg (by omega)
  have l0 : decide (0 < b.label) = true := decide_eq_true hlab.1
  have LMEM := Lib.hid (show decide (b.label ∈ labelsOf bs (lastFirst s.progs) i) = true from decide_eq_true hlab.2)
  have hdl : dupL bs b i s = true := by
    unfold dupL
    rw [hpb]
    exact decide_eq_true hlab
  have LWF := Lib.hid (wf_small (x := b.label) (by omega) (by have := valid_label (hvs i b hb); omega))
  have LKWF := Lib.hid (labels_wf hvs (lastFirst s.progs) i)
  have HSTEP := Lib.hid (show stepB bs b i s = .err i 7 by
    unfold stepB
    rw [if_neg (by omega), if_neg (by omega), hdl, if_pos rfl])
  have hv := hvs i b hb
  clear hk hlab hdl hvs hpb
  have hi : i < bs.length := (List.getElem?_eq_some_iff.1 hb).1
  have h0 := hsrc w (Below.refl _ _) hsz
  obtain ⟨hl, sb, so, rfl, hsb, hcc⟩ := h0.tab i hi
  have i0 : (0 : Int) ≤ (i : Int) := by omega
  have i1 : (i : Int) < (bs.length : Int) := by omega
  obtain ⟨vp, vm, vo, bn, bl, hbld⟩ := hbld
  have HOK := Lib.hid hok
  have HSRC := Lib.hid hsrc
  have HB := Lib.hid hb
  have HV := Lib.hid hv
  have hop := hok.few
  have hmt := hok.mate
  obtain ⟨lo, co, rfl⟩ := own_form hbld.op
  skip
  have HBLD := Lib.hid hbld
  have HMT := Lib.hid hmt
  have HSZ := Lib.hid hsz
  have hrow0 : ∀ j v, (blkC b (pl i))[j]? = some v → w.cell? ⟨sb, so + i * 11 + j, none⟩ = some v := fun j v hv => by
    rw [hcc j (by have := (List.getElem?_eq_some_iff.1 hv).1; simpa [blkC] using this), blksC_at HB.out]; exact hv
  have HR0 := Lib.hid hrow0
  clear hbld hok hsrc hb hv h0 hl hcc hmt hsz hrow0 hsb
  go_enter Try.func39, Try.ntmps39
  go_wp2_with fail
  refine region_L (fun W => (∀ j v, (blkC b (pl i))[j]? = some v → W.cell? ⟨sb, so + i * 11 + j, none⟩ = some v) ∧ W.cell? ⟨S, 2, none⟩ = some (.slice lo s.op.length co)) [] (by kernel_rfl) ?_
  have hS0 : (∀ j v, (blkC b (pl i))[j]? = some v → w.drew.cell? ⟨sb, so + i * 11 + j, none⟩ = some v) ∧ w.drew.cell? ⟨S, 2, none⟩ = some (.slice lo s.op.length co) := ⟨HR0.out, HBLD.out.blk.cell' 2 rfl⟩
  refine take_P 0 (v := .slice (some ⟨sb, so, none⟩) bs.length cap) rfl (by kernel_rfl) (by kernel_rfl) (by kernel_rfl) (fun _ _ _ h => h) rfl (fun W' => by go_simp) ?_
  refine take_P 1 (v := .int .i64 i) rfl (by kernel_rfl) (by kernel_rfl) (by kernel_rfl) (fun _ _ _ h => h) rfl (fun W' => by go_simp) ?_
  refine take_P 2 (v := .pointer (some ⟨sb, so + i * 11, none⟩)) rfl (by kernel_rfl) (by kernel_rfl) (by kernel_rfl) (fun _ _ _ h => h) rfl (fun W' => by go_simp) ?_
  refine take_L 3 (v := .agg (blkC b (pl i)).toArray) rfl (by kernel_rfl) (by kernel_rfl) (by kernel_rfl) (by kernel_rfl) (fun _ _ _ h => h) rfl (fun W' hW' => by exact exec_load 37 (.tmp 15) rfl ⟨sb, so + i * 11, none⟩ _ (by go_simp) (run_loadAt_mid W' sb (so + i * 11) 37 (blkC b (pl i)) _ hW'.1 Try.underlying37 rfl (by kernel_rfl))) hS0 ?_
  refine take_P 4 (v := .pointer (some ⟨S, 0, none⟩)) rfl (by kernel_rfl) (by kernel_rfl) (by kernel_rfl) (fun _ _ _ h => h) rfl (fun W' => by go_simp) ?_
  refine take_P 5 (v := .pointer (some ⟨S, 0, none⟩)) rfl (by kernel_rfl) (by kernel_rfl) (by kernel_rfl) (fun _ _ _ h => h) rfl (fun W' => by go_simp) ?_
  refine take_P 6 (v := .pointer (some ⟨S, 2, none⟩)) rfl (by kernel_rfl) (by kernel_rfl) (by kernel_rfl) (fun _ _ _ h => h) rfl (fun W' => by go_simp) ?_
  refine take_L 7 (v := .slice lo s.op.length co) rfl (by kernel_rfl) (by kernel_rfl) (by kernel_rfl) (by kernel_rfl) (fun _ _ _ h => h) rfl (fun W' hW' => by have e2 := hW'.2; clear hW'; go_simp) hS0 ?_
  refine take_P 8 (v := .int .i64 s.op.length) rfl (by kernel_rfl) (by kernel_rfl) (by kernel_rfl) (fun _ _ _ h => h) rfl (fun W' => by go_simp) ?_
  have hkeep : ∀ o : Obj, (∀ j v, (blkC b (pl i))[j]? = some v → (w.drew.alloc o).cell? ⟨sb, so + i * 11 + j, none⟩ = some v) ∧ (w.drew.alloc o).cell? ⟨S, 2, none⟩ = some (.slice lo s.op.length co) := fun o => by
    have hb1 : Below w.heap.size w (w.drew.alloc o) := ((Below.refl _ _).drew).alloc (Nat.le_refl _) o
    exact ⟨fun j v hv => (hb1.cell (p := ⟨sb, so + i * 11 + j, none⟩) (block_lt_of_cell (HR0.out j v hv))).trans (HR0.out j v hv), (HBLD.out.blk.below hb1 HBLD.out.blk.lt).cell' 2 rfl⟩
  refine one_L 9 (by kernel_rfl) rfl rfl fun K9 hK9 => ?_
  have HK9 := Lib.hid hK9
  clear hK9
  go_simp
  refine HK9.out _ _ (fun _ _ => hkeep _) ?_
  refine one_L 10 (by kernel_rfl) rfl rfl fun K10 hK10 => ?_
  have HK10 := Lib.hid hK10
  clear hK10
  refine wp_store_new (w := w.drew) 37 (.tmp 8) (.tmp 16) rfl #[.int .i64 0, .int .i64 0, .bool false, .slice none 0 0, .int .i64 0, .int .i64 0, .slice none 0 0, .int .i64 0, .int .i64 0, .slice none 0 0, .int .i64 0] (blkC b (pl i)).toArray rfl rfl (by kernel_rfl) rfl (all_oneCell_toArray blkC_one) ?_
  refine HK10.out _ _ (fun _ _ => hkeep _) ?_
  refine one_L 11 (by kernel_rfl) rfl rfl fun K11 hK11 => ?_
  have HK11 := Lib.hid hK11
  clear hK11
  go_simp
  refine HK11.out _ _ (fun _ _ => hkeep _) ?_
  refine done_L (by kernel_rfl) ?_ _
  have hst : AddSt w base S w.heap.size b (pl i) s.progs 0 s.mate s.op (numsOf s.progs) (labelsOf bs (lastFirst s.progs) i) vp vm (.slice lo s.op.length co) bn bl (w.drew.alloc (.cells (blkC b (pl i)).toArray 37)) := by
    have hb1 : Below w.heap.size w (w.drew.alloc (.cells (blkC b (pl i)).toArray 37)) := ((Below.refl _ _).drew).alloc (Nat.le_refl _) _
    refine ⟨HBLD.out.under hb1, Blk.new w.drew 37 _, hb1.mono HSZ.out, by have := HSZ.out; simp; omega⟩
  refine on_told (fun W => AddSt w base S w.heap.size b (pl i) s.progs 0 s.mate s.op (numsOf s.progs) (labelsOf bs (lastFirst s.progs) i) vp vm (.slice lo s.op.length co) bn bl W) hst fun W1 h1 => ?_
  clear hst hkeep hS0 HK9 HK10 HK11
  have H1 := Lib.hid h1
  have f1 := h1.bld.blk.cell 1
  have HM1 := Lib.hid (h1.bld.mate.alloc (.cells #[.int .i64 (-1)] 3))
  have HB1 := Lib.hid (Blk.new W1 3 #[.int .i64 (-1)])
  have HL1 := Lib.hid (show base ≤ (W1.alloc (.cells #[.int .i64 (-1)] 3)).heap.size by have := h1.size; simp; omega)
  clear h1
  go_simp
  go_wp2_with (at_builtin; refine wpList_push rfl (.tmp 26) (.tmp 27) 23 rfl base 3 (.int .i64 0) 1 8 Try.underlying23 infoInt rfl (by decide) (by decide) vm s.mate.length (intC s.mate) rfl HM1.out W1.heap.size [.int .i64 (-1)] rfl HB1.out rfl (by simp [Value.oneCell']) ?c1 HL1.out ?c2)
  case c1 => have := HMT.out; omega
  case c2 =>
    intro g c w2 hp
    have h2 := H1.out
    have hb1 : Below W1.heap.size W1 (W1.alloc (.cells #[.int .i64 (-1)] 3)) := (Below.refl _ _).alloc (Nat.le_refl _) _
    have hbl2 := (h2.bld.under hb1).pushMate hp
    have hS2 : Blk w2 S 69 _ := (h2.bld.blk.alloc _).grown hp.grown (own_ne h2.bld.mate h2.bld.blk (by decide))
    have hN2 : Blk w2 w.heap.size 37 (blkC b (pl i)).toArray := (h2.blk.alloc _).grown hp.grown (own_ne h2.bld.mate h2.blk (by decide))
    have hsz2 := h2.size
    have hsl2 := hp.grown.size
    have hst : AddSt w base S w.heap.size b (pl i) s.progs 0 (s.mate ++ [-1]) s.op (numsOf s.progs) (labelsOf bs (lastFirst s.progs) i) vp (.slice (some ⟨g, 0, none⟩) (s.mate.length + 1) c) (.slice lo s.op.length co) bn bl (w2.setCell ⟨S, 1, none⟩ (.slice (some ⟨g, 0, none⟩) (s.mate.length + 1) c)) := by
      refine ⟨hbl2, hN2.far (p := ⟨S, 1, none⟩) (fun e => ?_) _, ?_, by simp at hsl2 ⊢; omega⟩
      · have e' : w.heap.size = S := e
        rw [e'] at hN2
        unfold Blk at hN2 hS2
        rw [hS2] at hN2
        injection hN2 with hN2
        injection hN2 with _ hN2
        exact absurd hN2 (by decide)
      · exact ((h2.bel.alloc hsz2 _).trans (below_of_grown hp.grown (by simp; omega) (fun k e => (h2.bld.mate.lt k e).1))).setCell h2.bld.far.1 _
    have HST := Lib.hid hst
    have t1 := hS2.cell 1
    have z1 := hS2.frozen 1
    clear hst hp hS2 hN2 hbl2 h2 hb1 hsl2
    go_upto_region 3 with (fail)
    refine on_told (fun W => AddSt w base S w.heap.size b (pl i) s.progs 0 (s.mate ++ [-1]) s.op (numsOf s.progs) (labelsOf bs (lastFirst s.progs) i) vp (.slice (some ⟨g, 0, none⟩) (s.mate.length + 1) c) (.slice lo s.op.length co) bn bl W) HST.out fun W2 h2 => ?_
    clear HST t1 z1 HM1 HB1 HL1 H1 f1
    have H2 := Lib.hid h2
    have n0 := h2.kind
    have n1 := h2.label
    have n6 := h2.n
    clear h2
    go_wp2_with fail
    refine region_L (fun W => AddSt w base S w.heap.size b (pl i) s.progs 0 (s.mate ++ [-1]) s.op (numsOf s.progs) (labelsOf bs (lastFirst s.progs) i) vp (.slice (some ⟨g, 0, none⟩) (s.mate.length + 1) c) (.slice lo s.op.length co) bn bl W) [] (by kernel_rfl) ?_
    have hS0 := H2.out.drew
    refine take_P 0 (v := .pointer (some ⟨S, 0, none⟩)) rfl (by kernel_rfl) (by kernel_rfl) (by kernel_rfl) (fun _ _ _ h => h) rfl (fun W' => by go_simp) ?_
    refine take_P 1 (v := .pointer (some ⟨S, 0, none⟩)) rfl (by kernel_rfl) (by kernel_rfl) (by kernel_rfl) (fun _ _ _ h => h) rfl (fun W' => by go_simp) ?_
    refine take_P 2 (v := .pointer (some ⟨S, 4, none⟩)) rfl (by kernel_rfl) (by kernel_rfl) (by kernel_rfl) (fun _ _ _ h => h) rfl (fun W' => by go_simp) ?_
    refine take_L 3 (v := .map (some bl)) rfl (by kernel_rfl) (by kernel_rfl) (by kernel_rfl) (by kernel_rfl) (fun _ _ _ h => h) rfl (fun W' hW' => by have e4 := hW'.bld.blk.cell' 4 rfl; clear hW'; go_simp) hS0 ?_
    refine take_P 4 (v := .pointer (some ⟨w.heap.size, 1, none⟩)) rfl (by kernel_rfl) (by kernel_rfl) (by kernel_rfl) (fun _ _ _ h => h) rfl (fun W' => by go_simp) ?_
    refine take_L 5 (v := .int .i64 b.label) rfl (by kernel_rfl) (by kernel_rfl) (by kernel_rfl) (by kernel_rfl) (fun _ _ _ h => h) rfl (fun W' hW' => by have e4 := hW'.label; clear hW'; go_simp) hS0 ?_
    refine take_L 6 (v := .bool true) rfl (by kernel_rfl) (by kernel_rfl) (by kernel_rfl) (by kernel_rfl) (fun _ _ _ h => h) rfl (fun W' hW' => by exact exec_lookup 67 (.tmp 94) (.tmp 96) rfl (.map (some bl)) (.int .i64 b.label) (.bool true) (by go_simp) (by go_simp) (by have h9 := hW'.bld.labs.look Try.underlying3 Try.underlying67 (zero_bool W') LWF.out LKWF.out; rw [LMEM.out] at h9; exact h9)) hS0 ?_
    refine done_L (by kernel_rfl) ?_ _
    refine on_told (fun W => AddSt w base S w.heap.size b (pl i) s.progs 0 (s.mate ++ [-1]) s.op (numsOf s.progs) (labelsOf bs (lastFirst s.progs) i) vp (.slice (some ⟨g, 0, none⟩) (s.mate.length + 1) c) (.slice lo s.op.length co) bn bl W) hS0 fun W3 h3 => ?_
    clear hS0 H2 n0 n1 n6
    have H2 := Lib.hid h3
    have n0 := h3.kind
    have n1 := h3.label
    have n6 := h3.n
    clear h3
    go_simp
    go_wp2_with fail
    go_ret2
    exact AddPost.err HSTEP.out H2.out.bel rfl
set_option maxRecDepth 100000 in
set_option maxHeartbeats 4000000 in
theorem add_plain_none (bs : List BlkL) (a : Option Addr) (cap : Nat) (pl : Nat → Place) (base S i : Nat) (b : BlkL) (s : StL) (w : World) (hsrc : ∀ W, Below base w W → base ≤ W.heap.size → BlksAt W bs a cap pl) (hsz : base ≤ w.heap.size)
    (hb : bs[i]? = some b) (hvs : ∀ (j : Nat) (b : BlkL), bs[j]? = some b → validB b = true) (hok : StOK bs i s) (hlen : bs.length ≤ 2000) (hbld : BldSome base S s.progs s.mate s.op (numsOf s.progs) (labelsOf bs (lastFirst s.progs) i) w)
    (hk : b.kind ≠ 4 ∧ b.kind ≠ 5 ∧ b.kind ≠ 6) (hlab : b.label ≤ 0) :
    Calls Try.prog 39 #[.pointer (some ⟨S, 0, none⟩), .slice a bs.length cap, .int .i64 i] w (AddPost bs b i s base S w) := by
  have k4 : (b.kind == 4) = false := by simp; omega
  have k5 : (b.kind == 5) = false := by simp; omega
  have k6 : (b.kind == 6) = false := by simp; omega
  have hpb : progsB b i s = s.progs := if_neg (by omega)
  have l0 : decide (0 < b.label) = false := decide_eq_false (by omega)
  have hdl : dupL bs b i s = false := decide_eq_false (by omega)
  have HLABS := Lib.hid (show labelsOf bs (lastFirst s.progs) (i + 1) = labelsOf bs (lastFirst s.progs) i by rw [labelsOf_succ hb hok.first, if_neg (by omega), List.append_nil])
  have HSTEP := Lib.hid (show stepB bs b i s = .ok ⟨s.progs, s.mate ++ [-1], s.op⟩ by
    unfold stepB
    rw [if_neg (by omega), if_neg (by omega), hdl, if_neg (by decide), if_neg hk.1, if_neg hk.2.1, hpb])
  have hv := hvs i b hb
  clear hk hlab hdl hvs hpb
  have hi : i < bs.length := (List.getElem?_eq_some_iff.1 hb).1
  have h0 := hsrc w (Below.refl _ _) hsz
  obtain ⟨hl, sb, so, rfl, hsb, hcc⟩ := h0.tab i hi
  have i0 : (0 : Int) ≤ (i : Int) := by omega
  have i1 : (i : Int) < (bs.length : Int) := by omega
  obtain ⟨vp, vm, vo, bn, bl, hbld⟩ := hbld
  have HOK := Lib.hid hok
  have HSRC := Lib.hid hsrc
  have HB := Lib.hid hb
  have HV := Lib.hid hv
  have hop := hok.few
  have hmt := hok.mate
  obtain ⟨lo, co, rfl⟩ := own_form hbld.op
  skip
  have HBLD := Lib.hid hbld
  have HMT := Lib.hid hmt
  have HSZ := Lib.hid hsz
  have hrow0 : ∀ j v, (blkC b (pl i))[j]? = some v → w.cell? ⟨sb, so + i * 11 + j, none⟩ = some v := fun j v hv => by
    rw [hcc j (by have := (List.getElem?_eq_some_iff.1 hv).1; simpa [blkC] using this), blksC_at HB.out]; exact hv
  have HR0 := Lib.hid hrow0
  clear hbld hok hsrc hb hv h0 hl hcc hmt hsz hrow0 hsb
  go_enter Try.func39, Try.ntmps39
  go_wp2_with fail
  refine region_L (fun W => (∀ j v, (blkC b (pl i))[j]? = some v → W.cell? ⟨sb, so + i * 11 + j, none⟩ = some v) ∧ W.cell? ⟨S, 2, none⟩ = some (.slice lo s.op.length co)) [] (by kernel_rfl) ?_
  have hS0 : (∀ j v, (blkC b (pl i))[j]? = some v → w.drew.cell? ⟨sb, so + i * 11 + j, none⟩ = some v) ∧ w.drew.cell? ⟨S, 2, none⟩ = some (.slice lo s.op.length co) := ⟨HR0.out, HBLD.out.blk.cell' 2 rfl⟩
  refine take_P 0 (v := .slice (some ⟨sb, so, none⟩) bs.length cap) rfl (by kernel_rfl) (by kernel_rfl) (by kernel_rfl) (fun _ _ _ h => h) rfl (fun W' => by go_simp) ?_
  refine take_P 1 (v := .int .i64 i) rfl (by kernel_rfl) (by kernel_rfl) (by kernel_rfl) (fun _ _ _ h => h) rfl (fun W' => by go_simp) ?_
  refine take_P 2 (v := .pointer (some ⟨sb, so + i * 11, none⟩)) rfl (by kernel_rfl) (by kernel_rfl) (by kernel_rfl) (fun _ _ _ h => h) rfl (fun W' => by go_simp) ?_
  refine take_L 3 (v := .agg (blkC b (pl i)).toArray) rfl (by kernel_rfl) (by kernel_rfl) (by kernel_rfl) (by kernel_rfl) (fun _ _ _ h => h) rfl (fun W' hW' => by exact exec_load 37 (.tmp 15) rfl ⟨sb, so + i * 11, none⟩ _ (by go_simp) (run_loadAt_mid W' sb (so + i * 11) 37 (blkC b (pl i)) _ hW'.1 Try.underlying37 rfl (by kernel_rfl))) hS0 ?_
  refine take_P 4 (v := .pointer (some ⟨S, 0, none⟩)) rfl (by kernel_rfl) (by kernel_rfl) (by kernel_rfl) (fun _ _ _ h => h) rfl (fun W' => by go_simp) ?_
  refine take_P 5 (v := .pointer (some ⟨S, 0, none⟩)) rfl (by kernel_rfl) (by kernel_rfl) (by kernel_rfl) (fun _ _ _ h => h) rfl (fun W' => by go_simp) ?_
  refine take_P 6 (v := .pointer (some ⟨S, 2, none⟩)) rfl (by kernel_rfl) (by kernel_rfl) (by kernel_rfl) (fun _ _ _ h => h) rfl (fun W' => by go_simp) ?_
  refine take_L 7 (v := .slice lo s.op.length co) rfl (by kernel_rfl) (by kernel_rfl) (by kernel_rfl) (by kernel_rfl) (fun _ _ _ h => h) rfl (fun W' hW' => by have e2 := hW'.2; clear hW'; go_simp) hS0 ?_
  refine take_P 8 (v := .int .i64 s.op.length) rfl (by kernel_rfl) (by kernel_rfl) (by kernel_rfl) (fun _ _ _ h => h) rfl (fun W' => by go_simp) ?_
  have hkeep : ∀ o : Obj, (∀ j v, (blkC b (pl i))[j]? = some v → (w.drew.alloc o).cell? ⟨sb, so + i * 11 + j, none⟩ = some v) ∧ (w.drew.alloc o).cell? ⟨S, 2, none⟩ = some (.slice lo s.op.length co) := fun o => by
    have hb1 : Below w.heap.size w (w.drew.alloc o) := ((Below.refl _ _).drew).alloc (Nat.le_refl _) o
    exact ⟨fun j v hv => (hb1.cell (p := ⟨sb, so + i * 11 + j, none⟩) (block_lt_of_cell (HR0.out j v hv))).trans (HR0.out j v hv), (HBLD.out.blk.below hb1 HBLD.out.blk.lt).cell' 2 rfl⟩
  refine one_L 9 (by kernel_rfl) rfl rfl fun K9 hK9 => ?_
  have HK9 := Lib.hid hK9
  clear hK9
  go_simp
  refine HK9.out _ _ (fun _ _ => hkeep _) ?_
  refine one_L 10 (by kernel_rfl) rfl rfl fun K10 hK10 => ?_
  have HK10 := Lib.hid hK10
  clear hK10
  refine wp_store_new (w := w.drew) 37 (.tmp 8) (.tmp 16) rfl #[.int .i64 0, .int .i64 0, .bool false, .slice none 0 0, .int .i64 0, .int .i64 0, .slice none 0 0, .int .i64 0, .int .i64 0, .slice none 0 0, .int .i64 0] (blkC b (pl i)).toArray rfl rfl (by kernel_rfl) rfl (all_oneCell_toArray blkC_one) ?_
  refine HK10.out _ _ (fun _ _ => hkeep _) ?_
  refine one_L 11 (by kernel_rfl) rfl rfl fun K11 hK11 => ?_
  have HK11 := Lib.hid hK11
  clear hK11
  go_simp
  refine HK11.out _ _ (fun _ _ => hkeep _) ?_
  refine done_L (by kernel_rfl) ?_ _
  have hst : AddSt w base S w.heap.size b (pl i) s.progs 0 s.mate s.op (numsOf s.progs) (labelsOf bs (lastFirst s.progs) i) vp vm (.slice lo s.op.length co) bn bl (w.drew.alloc (.cells (blkC b (pl i)).toArray 37)) := by
    have hb1 : Below w.heap.size w (w.drew.alloc (.cells (blkC b (pl i)).toArray 37)) := ((Below.refl _ _).drew).alloc (Nat.le_refl _) _
    refine ⟨HBLD.out.under hb1, Blk.new w.drew 37 _, hb1.mono HSZ.out, by have := HSZ.out; simp; omega⟩
  refine on_told (fun W => AddSt w base S w.heap.size b (pl i) s.progs 0 s.mate s.op (numsOf s.progs) (labelsOf bs (lastFirst s.progs) i) vp vm (.slice lo s.op.length co) bn bl W) hst fun W1 h1 => ?_
  clear hst hkeep hS0 HK9 HK10 HK11
  have H1 := Lib.hid h1
  have f1 := h1.bld.blk.cell 1
  have HM1 := Lib.hid (h1.bld.mate.alloc (.cells #[.int .i64 (-1)] 3))
  have HB1 := Lib.hid (Blk.new W1 3 #[.int .i64 (-1)])
  have HL1 := Lib.hid (show base ≤ (W1.alloc (.cells #[.int .i64 (-1)] 3)).heap.size by have := h1.size; simp; omega)
  clear h1
  go_simp
  go_wp2_with (at_builtin; refine wpList_push rfl (.tmp 26) (.tmp 27) 23 rfl base 3 (.int .i64 0) 1 8 Try.underlying23 infoInt rfl (by decide) (by decide) vm s.mate.length (intC s.mate) rfl HM1.out W1.heap.size [.int .i64 (-1)] rfl HB1.out rfl (by simp [Value.oneCell']) ?c1 HL1.out ?c2)
  case c1 => have := HMT.out; omega
  case c2 =>
    intro g c w2 hp
    have h2 := H1.out
    have hb1 : Below W1.heap.size W1 (W1.alloc (.cells #[.int .i64 (-1)] 3)) := (Below.refl _ _).alloc (Nat.le_refl _) _
    have hbl2 := (h2.bld.under hb1).pushMate hp
    have hS2 : Blk w2 S 69 _ := (h2.bld.blk.alloc _).grown hp.grown (own_ne h2.bld.mate h2.bld.blk (by decide))
    have hN2 : Blk w2 w.heap.size 37 (blkC b (pl i)).toArray := (h2.blk.alloc _).grown hp.grown (own_ne h2.bld.mate h2.blk (by decide))
    have hsz2 := h2.size
    have hsl2 := hp.grown.size
    have hst : AddSt w base S w.heap.size b (pl i) s.progs 0 (s.mate ++ [-1]) s.op (numsOf s.progs) (labelsOf bs (lastFirst s.progs) i) vp (.slice (some ⟨g, 0, none⟩) (s.mate.length + 1) c) (.slice lo s.op.length co) bn bl (w2.setCell ⟨S, 1, none⟩ (.slice (some ⟨g, 0, none⟩) (s.mate.length + 1) c)) := by
      refine ⟨hbl2, hN2.far (p := ⟨S, 1, none⟩) (fun e => ?_) _, ?_, by simp at hsl2 ⊢; omega⟩
      · have e' : w.heap.size = S := e
        rw [e'] at hN2
        unfold Blk at hN2 hS2
        rw [hS2] at hN2
        injection hN2 with hN2
        injection hN2 with _ hN2
        exact absurd hN2 (by decide)
      · exact ((h2.bel.alloc hsz2 _).trans (below_of_grown hp.grown (by simp; omega) (fun k e => (h2.bld.mate.lt k e).1))).setCell h2.bld.far.1 _
    have HST := Lib.hid hst
    have t1 := hS2.cell 1
    have z1 := hS2.frozen 1
    clear hst hp hS2 hN2 hbl2 h2 hb1 hsl2
    go_upto_region 3 with (fail)
    refine on_told (fun W => AddSt w base S w.heap.size b (pl i) s.progs 0 (s.mate ++ [-1]) s.op (numsOf s.progs) (labelsOf bs (lastFirst s.progs) i) vp (.slice (some ⟨g, 0, none⟩) (s.mate.length + 1) c) (.slice lo s.op.length co) bn bl W) HST.out fun W2 h2 => ?_
    clear HST t1 z1 HM1 HB1 HL1 H1 f1
    have H2 := Lib.hid h2
    have n0 := h2.kind
    have n1 := h2.label
    have n6 := h2.n
    clear h2
    have h3 : AddSt w base S w.heap.size b (pl i) s.progs 0 (s.mate ++ [-1]) s.op (numsOf s.progs) (labelsOf bs (lastFirst s.progs) (i + 1)) vp (.slice (some ⟨g, 0, none⟩) (s.mate.length + 1) c) (.slice lo s.op.length co) bn bl W2 := by
      rw [HLABS.out]
      exact H2.out
    have H3 := Lib.hid h3
    clear h3 H2
    go_wp2_with fail
    go_ret2
    exact AddPost.ok HSTEP.out H3.out.bel ⟨_, _, _, _, _, H3.out.bld⟩ rfl
set_option maxRecDepth 100000 in
set_option maxHeartbeats 4000000 in
theorem add_plain_new (bs : List BlkL) (a : Option Addr) (cap : Nat) (pl : Nat → Place) (base S i : Nat) (b : BlkL) (s : StL) (w : World) (hsrc : ∀ W, Below base w W → base ≤ W.heap.size → BlksAt W bs a cap pl) (hsz : base ≤ w.heap.size)
    (hb : bs[i]? = some b) (hvs : ∀ (j : Nat) (b : BlkL), bs[j]? = some b → validB b = true) (hok : StOK bs i s) (hlen : bs.length ≤ 2000) (hbld : BldSome base S s.progs s.mate s.op (numsOf s.progs) (labelsOf bs (lastFirst s.progs) i) w)
    (hk : b.kind ≠ 4 ∧ b.kind ≠ 5 ∧ b.kind ≠ 6) (hlab : 0 < b.label ∧ b.label ∉ labelsOf bs (lastFirst s.progs) i) :
    Calls Try.prog 39 #[.pointer (some ⟨S, 0, none⟩), .slice a bs.length cap, .int .i64 i] w (AddPost bs b i s base S w) := by
  have k4 : (b.kind == 4) = false := by simp; omega
  have k5 : (b.kind == 5) = false := by simp; omega
  have k6 : (b.kind == 6) = false := by simp; omega
  have hpb : progsB b i s = s.progs := if_neg (by omega)
  have l0 : decide (0 < b.label) = true := decide_eq_true hlab.1
  have LMEM := Lib.hid (show decide (b.label ∈ labelsOf bs (lastFirst s.progs) i) = false from decide_eq_false hlab.2)
  have hdl : dupL bs b i s = false := by
    unfold dupL
    rw [hpb]
    exact decide_eq_false fun h => hlab.2 h.2
  have HLABS := Lib.hid (show labelsOf bs (lastFirst s.progs) (i + 1) = labelsOf bs (lastFirst s.progs) i ++ [b.label] by rw [labelsOf_succ hb hok.first, if_pos hlab.1])
  have LWF := Lib.hid (wf_small (x := b.label) (by omega) (by have := valid_label (hvs i b hb); omega))
  have LKWF := Lib.hid (labels_wf hvs (lastFirst s.progs) i)
  have HSTEP := Lib.hid (show stepB bs b i s = .ok ⟨s.progs, s.mate ++ [-1], s.op⟩ by
    unfold stepB
    rw [if_neg (by omega), if_neg (by omega), hdl, if_neg (by decide), if_neg hk.1, if_neg hk.2.1, hpb])
  have hv := hvs i b hb
  clear hk hlab hdl hvs hpb
  have hi : i < bs.length := (List.getElem?_eq_some_iff.1 hb).1
  have h0 := hsrc w (Below.refl _ _) hsz
  obtain ⟨hl, sb, so, rfl, hsb, hcc⟩ := h0.tab i hi
  have i0 : (0 : Int) ≤ (i : Int) := by omega
  have i1 : (i : Int) < (bs.length : Int) := by omega
  obtain ⟨vp, vm, vo, bn, bl, hbld⟩ := hbld
  have HOK := Lib.hid hok
  have HSRC := Lib.hid hsrc
  have HB := Lib.hid hb
  have HV := Lib.hid hv
  have hop := hok.few
  have hmt := hok.mate
  obtain ⟨lo, co, rfl⟩ := own_form hbld.op
  skip
  have HBLD := Lib.hid hbld
  have HMT := Lib.hid hmt
  have HSZ := Lib.hid hsz
  have hrow0 : ∀ j v, (blkC b (pl i))[j]? = some v → w.cell? ⟨sb, so + i * 11 + j, none⟩ = some v := fun j v hv => by
    rw [hcc j (by have := (List.getElem?_eq_some_iff.1 hv).1; simpa [blkC] using this), blksC_at HB.out]; exact hv
  have HR0 := Lib.hid hrow0
  clear hbld hok hsrc hb hv h0 hl hcc hmt hsz hrow0 hsb
  go_enter Try.func39, Try.ntmps39
  go_wp2_with fail
  refine region_L (fun W => (∀ j v, (blkC b (pl i))[j]? = some v → W.cell? ⟨sb, so + i * 11 + j, none⟩ = some v) ∧ W.cell? ⟨S, 2, none⟩ = some (.slice lo s.op.length co)) [] (by kernel_rfl) ?_
  have hS0 : (∀ j v, (blkC b (pl i))[j]? = some v → w.drew.cell? ⟨sb, so + i * 11 + j, none⟩ = some v) ∧ w.drew.cell? ⟨S, 2, none⟩ = some (.slice lo s.op.length co) := ⟨HR0.out, HBLD.out.blk.cell' 2 rfl⟩
  refine take_P 0 (v := .slice (some ⟨sb, so, none⟩) bs.length cap) rfl (by kernel_rfl) (by kernel_rfl) (by kernel_rfl) (fun _ _ _ h => h) rfl (fun W' => by go_simp) ?_
  refine take_P 1 (v := .int .i64 i) rfl (by kernel_rfl) (by kernel_rfl) (by kernel_rfl) (fun _ _ _ h => h) rfl (fun W' => by go_simp) ?_
  refine take_P 2 (v := .pointer (some ⟨sb, so + i * 11, none⟩)) rfl (by kernel_rfl) (by kernel_rfl) (by kernel_rfl) (fun _ _ _ h => h) rfl (fun W' => by go_simp) ?_
  refine take_L 3 (v := .agg (blkC b (pl i)).toArray) rfl (by kernel_rfl) (by kernel_rfl) (by kernel_rfl) (by kernel_rfl) (fun _ _ _ h => h) rfl (fun W' hW' => by exact exec_load 37 (.tmp 15) rfl ⟨sb, so + i * 11, none⟩ _ (by go_simp) (run_loadAt_mid W' sb (so + i * 11) 37 (blkC b (pl i)) _ hW'.1 Try.underlying37 rfl (by kernel_rfl))) hS0 ?_
  refine take_P 4 (v := .pointer (some ⟨S, 0, none⟩)) rfl (by kernel_rfl) (by kernel_rfl) (by kernel_rfl) (fun _ _ _ h => h) rfl (fun W' => by go_simp) ?_
  refine take_P 5 (v := .pointer (some ⟨S, 0, none⟩)) rfl (by kernel_rfl) (by kernel_rfl) (by kernel_rfl) (fun _ _ _ h => h) rfl (fun W' => by go_simp) ?_
  refine take_P 6 (v := .pointer (some ⟨S, 2, none⟩)) rfl (by kernel_rfl) (by kernel_rfl) (by kernel_rfl) (fun _ _ _ h => h) rfl (fun W' => by go_simp) ?_
  refine take_L 7 (v := .slice lo s.op.length co) rfl (by kernel_rfl) (by kernel_rfl) (by kernel_rfl) (by kernel_rfl) (fun _ _ _ h => h) rfl (fun W' hW' => by have e2 := hW'.2; clear hW'; go_simp) hS0 ?_
  refine take_P 8 (v := .int .i64 s.op.length) rfl (by kernel_rfl) (by kernel_rfl) (by kernel_rfl) (fun _ _ _ h => h) rfl (fun W' => by go_simp) ?_
  have hkeep : ∀ o : Obj, (∀ j v, (blkC b (pl i))[j]? = some v → (w.drew.alloc o).cell? ⟨sb, so + i * 11 + j, none⟩ = some v) ∧ (w.drew.alloc o).cell? ⟨S, 2, none⟩ = some (.slice lo s.op.length co) := fun o => by
    have hb1 : Below w.heap.size w (w.drew.alloc o) := ((Below.refl _ _).drew).alloc (Nat.le_refl _) o
    exact ⟨fun j v hv => (hb1.cell (p := ⟨sb, so + i * 11 + j, none⟩) (block_lt_of_cell (HR0.out j v hv))).trans (HR0.out j v hv), (HBLD.out.blk.below hb1 HBLD.out.blk.lt).cell' 2 rfl⟩
  refine one_L 9 (by kernel_rfl) rfl rfl fun K9 hK9 => ?_
  have HK9 := Lib.hid hK9
  clear hK9
  go_simp
  refine HK9.out _ _ (fun _ _ => hkeep _) ?_
  refine one_L 10 (by kernel_rfl) rfl rfl fun K10 hK10 => ?_
  have HK10 := Lib.hid hK10
  clear hK10
  refine wp_store_new (w := w.drew) 37 (.tmp 8) (.tmp 16) rfl #[.int .i64 0, .int .i64 0, .bool false, .slice none 0 0, .int .i64 0, .int .i64 0, .slice none 0 0, .int .i64 0, .int .i64 0, .slice none 0 0, .int .i64 0] (blkC b (pl i)).toArray rfl rfl (by kernel_rfl) rfl (all_oneCell_toArray blkC_one) ?_
  refine HK10.out _ _ (fun _ _ => hkeep _) ?_
  refine one_L 11 (by kernel_rfl) rfl rfl fun K11 hK11 => ?_
  have HK11 := Lib.hid hK11
  clear hK11
  go_simp
  refine HK11.out _ _ (fun _ _ => hkeep _) ?_
  refine done_L (by kernel_rfl) ?_ _
  have hst : AddSt w base S w.heap.size b (pl i) s.progs 0 s.mate s.op (numsOf s.progs) (labelsOf bs (lastFirst s.progs) i) vp vm (.slice lo s.op.length co) bn bl (w.drew.alloc (.cells (blkC b (pl i)).toArray 37)) := by
    have hb1 : Below w.heap.size w (w.drew.alloc (.cells (blkC b (pl i)).toArray 37)) := ((Below.refl _ _).drew).alloc (Nat.le_refl _) _
    refine ⟨HBLD.out.under hb1, Blk.new w.drew 37 _, hb1.mono HSZ.out, by have := HSZ.out; simp; omega⟩
  refine on_told (fun W => AddSt w base S w.heap.size b (pl i) s.progs 0 s.mate s.op (numsOf s.progs) (labelsOf bs (lastFirst s.progs) i) vp vm (.slice lo s.op.length co) bn bl W) hst fun W1 h1 => ?_
  clear hst hkeep hS0 HK9 HK10 HK11
  have H1 := Lib.hid h1
  have f1 := h1.bld.blk.cell 1
  have HM1 := Lib.hid (h1.bld.mate.alloc (.cells #[.int .i64 (-1)] 3))
  have HB1 := Lib.hid (Blk.new W1 3 #[.int .i64 (-1)])
  have HL1 := Lib.hid (show base ≤ (W1.alloc (.cells #[.int .i64 (-1)] 3)).heap.size by have := h1.size; simp; omega)
  clear h1
  go_simp
  go_wp2_with (at_builtin; refine wpList_push rfl (.tmp 26) (.tmp 27) 23 rfl base 3 (.int .i64 0) 1 8 Try.underlying23 infoInt rfl (by decide) (by decide) vm s.mate.length (intC s.mate) rfl HM1.out W1.heap.size [.int .i64 (-1)] rfl HB1.out rfl (by simp [Value.oneCell']) ?c1 HL1.out ?c2)
  case c1 => have := HMT.out; omega
  case c2 =>
    intro g c w2 hp
    have h2 := H1.out
    have hb1 : Below W1.heap.size W1 (W1.alloc (.cells #[.int .i64 (-1)] 3)) := (Below.refl _ _).alloc (Nat.le_refl _) _
    have hbl2 := (h2.bld.under hb1).pushMate hp
    have hS2 : Blk w2 S 69 _ := (h2.bld.blk.alloc _).grown hp.grown (own_ne h2.bld.mate h2.bld.blk (by decide))
    have hN2 : Blk w2 w.heap.size 37 (blkC b (pl i)).toArray := (h2.blk.alloc _).grown hp.grown (own_ne h2.bld.mate h2.blk (by decide))
    have hsz2 := h2.size
    have hsl2 := hp.grown.size
    have hst : AddSt w base S w.heap.size b (pl i) s.progs 0 (s.mate ++ [-1]) s.op (numsOf s.progs) (labelsOf bs (lastFirst s.progs) i) vp (.slice (some ⟨g, 0, none⟩) (s.mate.length + 1) c) (.slice lo s.op.length co) bn bl (w2.setCell ⟨S, 1, none⟩ (.slice (some ⟨g, 0, none⟩) (s.mate.length + 1) c)) := by
      refine ⟨hbl2, hN2.far (p := ⟨S, 1, none⟩) (fun e => ?_) _, ?_, by simp at hsl2 ⊢; omega⟩
      · have e' : w.heap.size = S := e
        rw [e'] at hN2
        unfold Blk at hN2 hS2
        rw [hS2] at hN2
        injection hN2 with hN2
        injection hN2 with _ hN2
        exact absurd hN2 (by decide)
      · exact ((h2.bel.alloc hsz2 _).trans (below_of_grown hp.grown (by simp; omega) (fun k e => (h2.bld.mate.lt k e).1))).setCell h2.bld.far.1 _
    have HST := Lib.hid hst
    have t1 := hS2.cell 1
    have z1 := hS2.frozen 1
    clear hst hp hS2 hN2 hbl2 h2 hb1 hsl2
    go_upto_region 3 with (fail)
    refine on_told (fun W => AddSt w base S w.heap.size b (pl i) s.progs 0 (s.mate ++ [-1]) s.op (numsOf s.progs) (labelsOf bs (lastFirst s.progs) i) vp (.slice (some ⟨g, 0, none⟩) (s.mate.length + 1) c) (.slice lo s.op.length co) bn bl W) HST.out fun W2 h2 => ?_
    clear HST t1 z1 HM1 HB1 HL1 H1 f1
    have H2 := Lib.hid h2
    have n0 := h2.kind
    have n1 := h2.label
    have n6 := h2.n
    clear h2
    go_wp2_with fail
    refine region_L (fun W => AddSt w base S w.heap.size b (pl i) s.progs 0 (s.mate ++ [-1]) s.op (numsOf s.progs) (labelsOf bs (lastFirst s.progs) i) vp (.slice (some ⟨g, 0, none⟩) (s.mate.length + 1) c) (.slice lo s.op.length co) bn bl W) [] (by kernel_rfl) ?_
    have hS0 := H2.out.drew
    refine take_P 0 (v := .pointer (some ⟨S, 0, none⟩)) rfl (by kernel_rfl) (by kernel_rfl) (by kernel_rfl) (fun _ _ _ h => h) rfl (fun W' => by go_simp) ?_
    refine take_P 1 (v := .pointer (some ⟨S, 0, none⟩)) rfl (by kernel_rfl) (by kernel_rfl) (by kernel_rfl) (fun _ _ _ h => h) rfl (fun W' => by go_simp) ?_
    refine take_P 2 (v := .pointer (some ⟨S, 4, none⟩)) rfl (by kernel_rfl) (by kernel_rfl) (by kernel_rfl) (fun _ _ _ h => h) rfl (fun W' => by go_simp) ?_
    refine take_L 3 (v := .map (some bl)) rfl (by kernel_rfl) (by kernel_rfl) (by kernel_rfl) (by kernel_rfl) (fun _ _ _ h => h) rfl (fun W' hW' => by have e4 := hW'.bld.blk.cell' 4 rfl; clear hW'; go_simp) hS0 ?_
    refine take_P 4 (v := .pointer (some ⟨w.heap.size, 1, none⟩)) rfl (by kernel_rfl) (by kernel_rfl) (by kernel_rfl) (fun _ _ _ h => h) rfl (fun W' => by go_simp) ?_
    refine take_L 5 (v := .int .i64 b.label) rfl (by kernel_rfl) (by kernel_rfl) (by kernel_rfl) (by kernel_rfl) (fun _ _ _ h => h) rfl (fun W' hW' => by have e4 := hW'.label; clear hW'; go_simp) hS0 ?_
    refine take_L 6 (v := .bool false) rfl (by kernel_rfl) (by kernel_rfl) (by kernel_rfl) (by kernel_rfl) (fun _ _ _ h => h) rfl (fun W' hW' => by exact exec_lookup 67 (.tmp 94) (.tmp 96) rfl (.map (some bl)) (.int .i64 b.label) (.bool false) (by go_simp) (by go_simp) (by have h9 := hW'.bld.labs.look Try.underlying3 Try.underlying67 (zero_bool W') LWF.out LKWF.out; rw [LMEM.out] at h9; exact h9)) hS0 ?_
    refine done_L (by kernel_rfl) ?_ _
    refine on_told (fun W => AddSt w base S w.heap.size b (pl i) s.progs 0 (s.mate ++ [-1]) s.op (numsOf s.progs) (labelsOf bs (lastFirst s.progs) i) vp (.slice (some ⟨g, 0, none⟩) (s.mate.length + 1) c) (.slice lo s.op.length co) bn bl W) hS0 fun W3 h3 => ?_
    clear hS0 H2 n0 n1 n6
    have H2 := Lib.hid h3
    have n0 := h3.kind
    have n1 := h3.label
    have n6 := h3.n
    clear h3
    go_simp
    go_wp2_with fail
    refine region_L (fun W => AddSt w base S w.heap.size b (pl i) s.progs 0 (s.mate ++ [-1]) s.op (numsOf s.progs) (labelsOf bs (lastFirst s.progs) i) vp (.slice (some ⟨g, 0, none⟩) (s.mate.length + 1) c) (.slice lo s.op.length co) bn bl W) [6] (by kernel_rfl) ?_
    have hS0 := H2.out.drew
    refine take_P 0 (v := .pointer (some ⟨S, 0, none⟩)) rfl (by kernel_rfl) (by kernel_rfl) (by kernel_rfl) (fun _ _ _ h => h) rfl (fun W' => by go_simp) ?_
    refine take_P 1 (v := .pointer (some ⟨S, 0, none⟩)) rfl (by kernel_rfl) (by kernel_rfl) (by kernel_rfl) (fun _ _ _ h => h) rfl (fun W' => by go_simp) ?_
    refine take_P 2 (v := .pointer (some ⟨S, 4, none⟩)) rfl (by kernel_rfl) (by kernel_rfl) (by kernel_rfl) (fun _ _ _ h => h) rfl (fun W' => by go_simp) ?_
    refine take_L 3 (v := .map (some bl)) rfl (by kernel_rfl) (by kernel_rfl) (by kernel_rfl) (by kernel_rfl) (fun _ _ _ h => h) rfl (fun W' hW' => by have e4 := hW'.bld.blk.cell' 4 rfl; clear hW'; go_simp) hS0 ?_
    refine take_P 4 (v := .pointer (some ⟨w.heap.size, 1, none⟩)) rfl (by kernel_rfl) (by kernel_rfl) (by kernel_rfl) (fun _ _ _ h => h) rfl (fun W' => by go_simp) ?_
    refine take_L 5 (v := .int .i64 b.label) rfl (by kernel_rfl) (by kernel_rfl) (by kernel_rfl) (by kernel_rfl) (fun _ _ _ h => h) rfl (fun W' hW' => by have e4 := hW'.label; clear hW'; go_simp) hS0 ?_
    obtain ⟨w9, hrun, hset, hgr⟩ := hS0.bld.labs.store (P := Try.prog) Try.underlying3 Try.underlying67 LWF.out LKWF.out (of_decide_eq_false LMEM.out)
    have hst9 : AddSt w base S w.heap.size b (pl i) s.progs 0 (s.mate ++ [-1]) s.op (numsOf s.progs) (labelsOf bs (lastFirst s.progs) (i + 1)) vp (.slice (some ⟨g, 0, none⟩) (s.mate.length + 1) c) (.slice lo s.op.length co) bn bl w9 := by
      rw [HLABS.out]
      exact add_lab hS0 hset hgr
    refine one_L 6 (by kernel_rfl) rfl rfl fun K6 hK6 => ?_
    have HK6 := Lib.hid hK6
    clear hK6
    go_simp
    refine HK6.out _ _ (fun h => absurd h (by decide)) ?_
    refine done_L (by kernel_rfl) ?_ _
    refine on_told (fun W => AddSt w base S w.heap.size b (pl i) s.progs 0 (s.mate ++ [-1]) s.op (numsOf s.progs) (labelsOf bs (lastFirst s.progs) (i + 1)) vp (.slice (some ⟨g, 0, none⟩) (s.mate.length + 1) c) (.slice lo s.op.length co) bn bl W) hst9 fun W3 h3 => ?_
    clear hS0 H2 n0 n1 n6 hst9 hrun hset hgr HK6
    have H3 := Lib.hid h3
    have n0 := h3.kind
    have n1 := h3.label
    have n6 := h3.n
    clear h3
    go_simp
    go_wp2_with fail
    go_ret2
    exact AddPost.ok HSTEP.out H3.out.bel ⟨_, _, _, _, _, H3.out.bld⟩ rfl
end Go.Proofs.Yteiogjgmedikhaa
