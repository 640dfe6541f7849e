/-
  library's add at the beginning of a loop.
-/
import Derived.Test.YteiogjgmedikhaaAddL09
namespace Go.Proofs.Yteiogjgmedikhaa
open Go Go.RowKit
set_option linter.unusedVariables false



set_option maxRecDepth 100000 in
set_option maxHeartbeats 4000000 in
theorem add_while_none (bs : List BlkL) (a : Option Addr) (cap : Nat) (pl : Nat → Place) (base S i : Nat) (b : BlkL) (s : StL) (w : World) (hsrc : ∀ W, Below base w W → base ≤ W.heap.size → BlksAt W bs a cap pl) (hsz : base ≤ w.heap.size)
    (hb : bs[i]? = some b) (hvs : ∀ (j : Nat) (b : BlkL), bs[j]? = some b → validB b = true) (hok : StOK bs i s) (hlen : bs.length ≤ 2000) (hbld : BldSome base S s.progs s.mate s.op (numsOf s.progs) (labelsOf bs (lastFirst s.progs) i) w)
    (hk : b.kind = 4) (hlab : b.label ≤ 0) :
    Calls Try.prog 39 #[.pointer (some ⟨S, 0, none⟩), .slice a bs.length cap, .int .i64 i] w (AddPost bs b i s base S w) := by
  have k4 : (b.kind == 4) = true := by simp; omega
  have k5 : (b.kind == 5) = false := by simp; omega
  have k6 : (b.kind == 6) = false := by simp; omega
  have hv := hvs i b hb
  have hpb : progsB b i s = s.progs := if_neg (by omega)
  have l0 : decide (0 < b.label) = false := decide_eq_false (by omega)
  have hdl : dupL bs b i s = false := decide_eq_false (by omega)
  have HLABS := Lib.hid (show labelsOf bs (lastFirst s.progs) (i + 1) = labelsOf bs (lastFirst s.progs) i by rw [labelsOf_succ hb hok.first, if_neg (by omega), List.append_nil])
  have HERR := Lib.hid (fun hs : sameN bs b s = true => show stepB bs b i s = .err i 11 by
    unfold stepB
    rw [if_neg (by omega), if_neg (by omega), hdl, if_neg (by decide), if_pos hk, if_pos hs])
  have HOKS := Lib.hid (fun hs : sameN bs b s = false => show stepB bs b i s = .ok ⟨s.progs, s.mate ++ [-1], s.op ++ [i]⟩ by
    unfold stepB
    rw [if_neg (by omega), if_neg (by omega), hdl, if_neg (by decide), if_pos hk, if_neg (by rw [hs]; decide), hpb])
  have HLEN := Lib.hid (show i < bs.length ∧ bs.length ≤ 2000 from ⟨(List.getElem?_eq_some_iff.1 hb).1, hlen⟩)
  clear hk hlab hdl hvs hpb
  have hi : i < bs.length := (List.getElem?_eq_some_iff.1 hb).1
  have h0 := hsrc w (Below.refl _ _) hsz
  obtain ⟨hl, sb, so, rfl, hsb, hcc⟩ := h0.tab i hi
  have i0 : (0 : Int) ≤ (i : Int) := by omega
  have i1 : (i : Int) < (bs.length : Int) := by omega
  obtain ⟨vp, vm, vo, bn, bl, hbld⟩ := hbld
  have HOK := Lib.hid hok
  have HSRC := Lib.hid hsrc
  have HB := Lib.hid hb
  have HV := Lib.hid hv
  have hop := hok.few
  have hmt := hok.mate
  obtain ⟨lo, co, rfl⟩ := own_form hbld.op
  skip
  have HBLD := Lib.hid hbld
  have HMT := Lib.hid hmt
  have HSZ := Lib.hid hsz
  have hrow0 : ∀ j v, (blkC b (pl i))[j]? = some v → w.cell? ⟨sb, so + i * 11 + j, none⟩ = some v := fun j v hv => by
    rw [hcc j (by have := (List.getElem?_eq_some_iff.1 hv).1; simpa [blkC] using this), blksC_at HB.out]; exact hv
  have HR0 := Lib.hid hrow0
  clear hbld hok hsrc hb hv h0 hl hcc hmt hsz hrow0 hsb
  go_enter Try.func39, Try.ntmps39
  go_wp2_with fail
  refine region_L (fun W => (∀ j v, (blkC b (pl i))[j]? = some v → W.cell? ⟨sb, so + i * 11 + j, none⟩ = some v) ∧ W.cell? ⟨S, 2, none⟩ = some (.slice lo s.op.length co)) [] (by kernel_rfl) ?_
  have hS0 : (∀ j v, (blkC b (pl i))[j]? = some v → w.drew.cell? ⟨sb, so + i * 11 + j, none⟩ = some v) ∧ w.drew.cell? ⟨S, 2, none⟩ = some (.slice lo s.op.length co) := ⟨HR0.out, HBLD.out.blk.cell' 2 rfl⟩
  refine take_P 0 (v := .slice (some ⟨sb, so, none⟩) bs.length cap) rfl (by kernel_rfl) (by kernel_rfl) (by kernel_rfl) (fun _ _ _ h => h) rfl (fun W' => by go_simp) ?_
  refine take_P 1 (v := .int .i64 i) rfl (by kernel_rfl) (by kernel_rfl) (by kernel_rfl) (fun _ _ _ h => h) rfl (fun W' => by go_simp) ?_
  refine take_P 2 (v := .pointer (some ⟨sb, so + i * 11, none⟩)) rfl (by kernel_rfl) (by kernel_rfl) (by kernel_rfl) (fun _ _ _ h => h) rfl (fun W' => by go_simp) ?_
  refine take_L 3 (v := .agg (blkC b (pl i)).toArray) rfl (by kernel_rfl) (by kernel_rfl) (by kernel_rfl) (by kernel_rfl) (fun _ _ _ h => h) rfl (fun W' hW' => by exact exec_load 37 (.tmp 15) rfl ⟨sb, so + i * 11, none⟩ _ (by go_simp) (run_loadAt_mid W' sb (so + i * 11) 37 (blkC b (pl i)) _ hW'.1 Try.underlying37 rfl (by kernel_rfl))) hS0 ?_
  refine take_P 4 (v := .pointer (some ⟨S, 0, none⟩)) rfl (by kernel_rfl) (by kernel_rfl) (by kernel_rfl) (fun _ _ _ h => h) rfl (fun W' => by go_simp) ?_
  refine take_P 5 (v := .pointer (some ⟨S, 0, none⟩)) rfl (by kernel_rfl) (by kernel_rfl) (by kernel_rfl) (fun _ _ _ h => h) rfl (fun W' => by go_simp) ?_
  refine take_P 6 (v := .pointer (some ⟨S, 2, none⟩)) rfl (by kernel_rfl) (by kernel_rfl) (by kernel_rfl) (fun _ _ _ h => h) rfl (fun W' => by go_simp) ?_
  refine take_L 7 (v := .slice lo s.op.length co) rfl (by kernel_rfl) (by kernel_rfl) (by kernel_rfl) (by kernel_rfl) (fun _ _ _ h => h) rfl (fun W' hW' => by have e2 := hW'.2; clear hW'; go_simp) hS0 ?_
  refine take_P 8 (v := .int .i64 s.op.length) rfl (by kernel_rfl) (by kernel_rfl) (by kernel_rfl) (fun _ _ _ h => h) rfl (fun W' => by go_simp) ?_
  have hkeep : ∀ o : Obj, (∀ j v, (blkC b (pl i))[j]? = some v → (w.drew.alloc o).cell? ⟨sb, so + i * 11 + j, none⟩ = some v) ∧ (w.drew.alloc o).cell? ⟨S, 2, none⟩ = some (.slice lo s.op.length co) := fun o => by
    have hb1 : Below w.heap.size w (w.drew.alloc o) := ((Below.refl _ _).drew).alloc (Nat.le_refl _) o
    exact ⟨fun j v hv => (hb1.cell (p := ⟨sb, so + i * 11 + j, none⟩) (block_lt_of_cell (HR0.out j v hv))).trans (HR0.out j v hv), (HBLD.out.blk.below hb1 HBLD.out.blk.lt).cell' 2 rfl⟩
  refine one_L 9 (by kernel_rfl) rfl rfl fun K9 hK9 => ?_
  have HK9 := Lib.hid hK9
  clear hK9
  go_simp
  refine HK9.out _ _ (fun _ _ => hkeep _) ?_
  refine one_L 10 (by kernel_rfl) rfl rfl fun K10 hK10 => ?_
  have HK10 := Lib.hid hK10
  clear hK10
  refine wp_store_new (w := w.drew) 37 (.tmp 8) (.tmp 16) rfl #[.int .i64 0, .int .i64 0, .bool false, .slice none 0 0, .int .i64 0, .int .i64 0, .slice none 0 0, .int .i64 0, .int .i64 0, .slice none 0 0, .int .i64 0] (blkC b (pl i)).toArray rfl rfl (by kernel_rfl) rfl (all_oneCell_toArray blkC_one) ?_
  refine HK10.out _ _ (fun _ _ => hkeep _) ?_
  refine one_L 11 (by kernel_rfl) rfl rfl fun K11 hK11 => ?_
  have HK11 := Lib.hid hK11
  clear hK11
  go_simp
  refine HK11.out _ _ (fun _ _ => hkeep _) ?_
  refine done_L (by kernel_rfl) ?_ _
  have hst : AddSt w base S w.heap.size b (pl i) s.progs 0 s.mate s.op (numsOf s.progs) (labelsOf bs (lastFirst s.progs) i) vp vm (.slice lo s.op.length co) bn bl (w.drew.alloc (.cells (blkC b (pl i)).toArray 37)) := by
    have hb1 : Below w.heap.size w (w.drew.alloc (.cells (blkC b (pl i)).toArray 37)) := ((Below.refl _ _).drew).alloc (Nat.le_refl _) _
    refine ⟨HBLD.out.under hb1, Blk.new w.drew 37 _, hb1.mono HSZ.out, by have := HSZ.out; simp; omega⟩
  refine on_told (fun W => AddSt w base S w.heap.size b (pl i) s.progs 0 s.mate s.op (numsOf s.progs) (labelsOf bs (lastFirst s.progs) i) vp vm (.slice lo s.op.length co) bn bl W) hst fun W1 h1 => ?_
  clear hst hkeep hS0 HK9 HK10 HK11
  have H1 := Lib.hid h1
  have f1 := h1.bld.blk.cell 1
  have HM1 := Lib.hid (h1.bld.mate.alloc (.cells #[.int .i64 (-1)] 3))
  have HB1 := Lib.hid (Blk.new W1 3 #[.int .i64 (-1)])
  have HL1 := Lib.hid (show base ≤ (W1.alloc (.cells #[.int .i64 (-1)] 3)).heap.size by have := h1.size; simp; omega)
  clear h1
  go_simp
  go_wp2_with (at_builtin; refine wpList_push rfl (.tmp 26) (.tmp 27) 23 rfl base 3 (.int .i64 0) 1 8 Try.underlying23 infoInt rfl (by decide) (by decide) vm s.mate.length (intC s.mate) rfl HM1.out W1.heap.size [.int .i64 (-1)] rfl HB1.out rfl (by simp [Value.oneCell']) ?c1 HL1.out ?c2)
  case c1 => have := HMT.out; omega
  case c2 =>
    intro g c w2 hp
    have h2 := H1.out
    have hb1 : Below W1.heap.size W1 (W1.alloc (.cells #[.int .i64 (-1)] 3)) := (Below.refl _ _).alloc (Nat.le_refl _) _
    have hbl2 := (h2.bld.under hb1).pushMate hp
    have hS2 : Blk w2 S 69 _ := (h2.bld.blk.alloc _).grown hp.grown (own_ne h2.bld.mate h2.bld.blk (by decide))
    have hN2 : Blk w2 w.heap.size 37 (blkC b (pl i)).toArray := (h2.blk.alloc _).grown hp.grown (own_ne h2.bld.mate h2.blk (by decide))
    have hsz2 := h2.size
    have hsl2 := hp.grown.size
    have hst : AddSt w base S w.heap.size b (pl i) s.progs 0 (s.mate ++ [-1]) s.op (numsOf s.progs) (labelsOf bs (lastFirst s.progs) i) vp (.slice (some ⟨g, 0, none⟩) (s.mate.length + 1) c) (.slice lo s.op.length co) bn bl (w2.setCell ⟨S, 1, none⟩ (.slice (some ⟨g, 0, none⟩) (s.mate.length + 1) c)) := by
      refine ⟨hbl2, hN2.far (p := ⟨S, 1, none⟩) (fun e => ?_) _, ?_, by simp at hsl2 ⊢; omega⟩
      · have e' : w.heap.size = S := e
        rw [e'] at hN2
        unfold Blk at hN2 hS2
        rw [hS2] at hN2
        injection hN2 with hN2
        injection hN2 with _ hN2
        exact absurd hN2 (by decide)
      · exact ((h2.bel.alloc hsz2 _).trans (below_of_grown hp.grown (by simp; omega) (fun k e => (h2.bld.mate.lt k e).1))).setCell h2.bld.far.1 _
    have HST := Lib.hid hst
    have t1 := hS2.cell 1
    have z1 := hS2.frozen 1
    clear hst hp hS2 hN2 hbl2 h2 hb1 hsl2
    go_upto_region 3 with (fail)
    refine on_told (fun W => AddSt w base S w.heap.size b (pl i) s.progs 0 (s.mate ++ [-1]) s.op (numsOf s.progs) (labelsOf bs (lastFirst s.progs) i) vp (.slice (some ⟨g, 0, none⟩) (s.mate.length + 1) c) (.slice lo s.op.length co) bn bl W) HST.out fun W2 h2 => ?_
    clear HST t1 z1 HM1 HB1 HL1 H1 f1
    have H2 := Lib.hid h2
    have n0 := h2.kind
    have n1 := h2.label
    have n6 := h2.n
    clear h2
    have h3 : AddSt w base S w.heap.size b (pl i) s.progs 0 (s.mate ++ [-1]) s.op (numsOf s.progs) (labelsOf bs (lastFirst s.progs) (i + 1)) vp (.slice (some ⟨g, 0, none⟩) (s.mate.length + 1) c) (.slice lo s.op.length co) bn bl W2 := by
      rw [HLABS.out]
      exact H2.out
    have H3 := Lib.hid h3
    clear h3 H2
    have f2 := H3.out.bld.blk.cell 2
    go_wp2_with fail
    go_loopw [114] (fun s1 W => ∃ j : Nat, j ≤ s.op.length ∧ s1 = .int .i64 j ∧ (∀ (q t : Nat), q < j → s.op[q]? = some t → nOf bs t ≠ b.n) ∧ AddSt w base S w.heap.size b (pl i) s.progs 0 (s.mate ++ [-1]) s.op (numsOf s.progs) (labelsOf bs (lastFirst s.progs) (i + 1)) vp (.slice (some ⟨g, 0, none⟩) (s.mate.length + 1) c) (.slice lo s.op.length co) bn bl W) (fun s1 _ => s.op.length - (intOf s1).toNat)
    case atStart => exact ⟨0, by omega, rfl, fun q t h => by omega, H3.out⟩
    case round =>
      rename World => wx
      obtain ⟨j, hj, rfl, hall, hst⟩ := hrel
      have HA := Lib.hid hall
      have H4 := Lib.hid hst
      have j0 : (0 : Int) ≤ (j : Int) := by omega
      clear hall
      by_cases hlt : j < s.op.length
      · have d1 : decide (j < s.op.length) = true := by simpa using hlt
        have j1 : (j : Int) < (s.op.length : Int) := by omega
        have ht : s.op[j]? = some s.op[j] := List.getElem?_eq_getElem hlt
        generalize s.op[j] = t at ht
        have hti := HOK.out.op t (List.mem_of_getElem? ht)
        obtain ⟨go, rfl, hgo1, hgo2, c0⟩ := op_at hst.bld ht
        have t0 : (0 : Int) ≤ (t : Int) := by omega
        have t1 : (t : Int) < (bs.length : Int) := by omega
        have HT := Lib.hid ht
        have HTL := Lib.hid (show t < bs.length by omega)
        clear ht hst
        by_cases he : nOf bs t = b.n
        · have he' : (nOf bs t == b.n) = true := by simpa using he
          have HSN := Lib.hid (show sameN bs b s = true from List.any_eq_true.2 ⟨t, List.mem_of_getElem? HT.out, by simpa using he⟩)
          clear he
          go_wp2_with fail
          refine region_L (fun W => AddSt w base S w.heap.size b (pl i) s.progs 0 (s.mate ++ [-1]) s.op (numsOf s.progs) (labelsOf bs (lastFirst s.progs) (i + 1)) vp (.slice (some ⟨g, 0, none⟩) (s.mate.length + 1) c) (.slice (some ⟨go, 0, none⟩) s.op.length co) bn bl W) [] (by kernel_rfl) ?_
          have hS0 := H4.out.drew
          refine take_P 0 (v := .slice (some ⟨sb, so, none⟩) bs.length cap) rfl (by kernel_rfl) (by kernel_rfl) (by kernel_rfl) (fun _ _ _ h => h) rfl (fun W' => by go_simp) ?_
          refine take_P 1 (v := .int .i64 t) rfl (by kernel_rfl) (by kernel_rfl) (by kernel_rfl) (fun _ _ _ h => h) rfl (fun W' => by go_simp) ?_
          refine take_P 2 (v := .pointer (some ⟨sb, so + t * 11, none⟩)) rfl (by kernel_rfl) (by kernel_rfl) (by kernel_rfl) (fun _ _ _ h => h) rfl (fun W' => by go_simp) ?_
          refine take_P 3 (v := .pointer (some ⟨sb, so + t * 11 + 10, none⟩)) rfl (by kernel_rfl) (by kernel_rfl) (by kernel_rfl) (fun _ _ _ h => h) rfl (fun W' => by go_simp) ?_
          refine take_L 4 (v := .int .i64 (nOf bs t)) rfl (by kernel_rfl) (by kernel_rfl) (by kernel_rfl) (by kernel_rfl) (fun _ _ _ h => h) rfl (fun W' hW' => by have e4 := blk_n (HSRC.out W' hW'.bel hW'.size) HTL.out; clear hW'; go_simp) hS0 ?_
          refine take_P 5 (v := .pointer (some ⟨w.heap.size, 10, none⟩)) rfl (by kernel_rfl) (by kernel_rfl) (by kernel_rfl) (fun _ _ _ h => h) rfl (fun W' => by go_simp) ?_
          refine take_L 6 (v := .int .i64 b.n) rfl (by kernel_rfl) (by kernel_rfl) (by kernel_rfl) (by kernel_rfl) (fun _ _ _ h => h) rfl (fun W' hW' => by have e4 := hW'.n; clear hW'; go_simp) hS0 ?_
          refine take_P 7 (v := .bool true) rfl (by kernel_rfl) (by kernel_rfl) (by kernel_rfl) (fun _ _ _ h => h) rfl (fun W' => by go_simp) ?_
          refine done_L (by kernel_rfl) ?_ _
          refine on_told (fun W => AddSt w base S w.heap.size b (pl i) s.progs 0 (s.mate ++ [-1]) s.op (numsOf s.progs) (labelsOf bs (lastFirst s.progs) (i + 1)) vp (.slice (some ⟨g, 0, none⟩) (s.mate.length + 1) c) (.slice (some ⟨go, 0, none⟩) s.op.length co) bn bl W) hS0 fun W5 h5 => ?_
          clear hS0 c0
          have H5 := Lib.hid h5
          clear h5
          go_simp
          go_wp2_with fail
          go_ret2
          exact AddPost.err (HERR.out HSN.out) H5.out.bel rfl
        · have he' : (nOf bs t == b.n) = false := by simpa using he
          have HE := Lib.hid he
          clear he
          go_wp2_with fail
          refine region_L (fun W => AddSt w base S w.heap.size b (pl i) s.progs 0 (s.mate ++ [-1]) s.op (numsOf s.progs) (labelsOf bs (lastFirst s.progs) (i + 1)) vp (.slice (some ⟨g, 0, none⟩) (s.mate.length + 1) c) (.slice (some ⟨go, 0, none⟩) s.op.length co) bn bl W) [] (by kernel_rfl) ?_
          have hS0 := H4.out.drew
          refine take_P 0 (v := .slice (some ⟨sb, so, none⟩) bs.length cap) rfl (by kernel_rfl) (by kernel_rfl) (by kernel_rfl) (fun _ _ _ h => h) rfl (fun W' => by go_simp) ?_
          refine take_P 1 (v := .int .i64 t) rfl (by kernel_rfl) (by kernel_rfl) (by kernel_rfl) (fun _ _ _ h => h) rfl (fun W' => by go_simp) ?_
          refine take_P 2 (v := .pointer (some ⟨sb, so + t * 11, none⟩)) rfl (by kernel_rfl) (by kernel_rfl) (by kernel_rfl) (fun _ _ _ h => h) rfl (fun W' => by go_simp) ?_
          refine take_P 3 (v := .pointer (some ⟨sb, so + t * 11 + 10, none⟩)) rfl (by kernel_rfl) (by kernel_rfl) (by kernel_rfl) (fun _ _ _ h => h) rfl (fun W' => by go_simp) ?_
          refine take_L 4 (v := .int .i64 (nOf bs t)) rfl (by kernel_rfl) (by kernel_rfl) (by kernel_rfl) (by kernel_rfl) (fun _ _ _ h => h) rfl (fun W' hW' => by have e4 := blk_n (HSRC.out W' hW'.bel hW'.size) HTL.out; clear hW'; go_simp) hS0 ?_
          refine take_P 5 (v := .pointer (some ⟨w.heap.size, 10, none⟩)) rfl (by kernel_rfl) (by kernel_rfl) (by kernel_rfl) (fun _ _ _ h => h) rfl (fun W' => by go_simp) ?_
          refine take_L 6 (v := .int .i64 b.n) rfl (by kernel_rfl) (by kernel_rfl) (by kernel_rfl) (by kernel_rfl) (fun _ _ _ h => h) rfl (fun W' hW' => by have e4 := hW'.n; clear hW'; go_simp) hS0 ?_
          refine take_P 7 (v := .bool false) rfl (by kernel_rfl) (by kernel_rfl) (by kernel_rfl) (fun _ _ _ h => h) rfl (fun W' => by go_simp) ?_
          refine done_L (by kernel_rfl) ?_ _
          refine on_told (fun W => AddSt w base S w.heap.size b (pl i) s.progs 0 (s.mate ++ [-1]) s.op (numsOf s.progs) (labelsOf bs (lastFirst s.progs) (i + 1)) vp (.slice (some ⟨g, 0, none⟩) (s.mate.length + 1) c) (.slice (some ⟨go, 0, none⟩) s.op.length co) bn bl W) hS0 fun W5 h5 => ?_
          clear hS0 c0
          have H5 := Lib.hid h5
          clear h5
          go_simp
          go_wp2_with fail
          go_roundw
          case rel => exact ⟨j + 1, by omega, by go_num, fun q t' hq ht' => by
            by_cases e : q = j
            · subst e
              rw [HT.out] at ht'
              injection ht' with ht'
              subst ht'
              exact HE.out
            · exact HA.out q t' (by omega) ht', H5.out⟩
          case measure => simp [intOf]; omega
      · obtain rfl : j = s.op.length := by omega
        have d1 : decide (s.op.length < s.op.length) = false := by simp
        have HSN := Lib.hid (show sameN bs b s = false from List.any_eq_false.2 fun t ht => by
          obtain ⟨q, hq⟩ := List.mem_iff_getElem?.1 ht
          simpa using HA.out q t (List.getElem?_eq_some_iff.1 hq).1 hq)
        have f2 := hst.bld.blk.cell 2
        have z2 := hst.bld.blk.frozen 2
        have HOP := Lib.hid (hst.bld.op.alloc (.cells #[.int .i64 i] 3))
        have HB4 := Lib.hid (Blk.new wx 3 #[.int .i64 i])
        have HL4 := Lib.hid (show base ≤ (wx.alloc (.cells #[.int .i64 i] 3)).heap.size by have := hst.size; simp; omega)
        clear hst
        go_wp2_with (at_builtin; refine wpList_push rfl (.tmp 132) (.tmp 134) 23 rfl base 3 (.int .i64 0) 1 8 Try.underlying23 infoInt rfl (by decide) (by decide) (.slice lo s.op.length co) s.op.length (intC (s.op.map (fun n : Nat => (n : Int)))) rfl HOP.out wx.heap.size [.int .i64 i] rfl HB4.out rfl (by simp [Value.oneCell']) ?c3 HL4.out ?c4)
        case c3 => have := HOK.out.few; have := HLEN.out; omega
        case c4 =>
          intro g6 c6 w6 hp
          have h4 := H4.out
          have hb1 : Below wx.heap.size wx (wx.alloc (.cells #[.int .i64 i] 3)) := (Below.refl _ _).alloc (Nat.le_refl _) _
          have hbl6 := (h4.bld.under hb1).pushOp hp
          have hS6 : Blk w6 S 69 _ := (h4.bld.blk.alloc _).grown hp.grown (own_ne h4.bld.op h4.bld.blk (by decide))
          have hsz6 := h4.size
          have HBEL6 := Lib.hid ((((h4.bel.alloc hsz6 _).trans (below_of_grown hp.grown (by simp; omega) (fun k e => (h4.bld.op.lt k e).1))).setCell h4.bld.far.1 _ : Below base w (w6.setCell ⟨S, 2, none⟩ (.slice (some ⟨g6, 0, none⟩) (s.op.length + 1) c6))))
          have HBL6 := Lib.hid hbl6
          have t2 := hS6.cell 2
          have y2 := hS6.frozen 2
          clear hp hS6 hbl6 h4 hb1 f2 z2
          go_wp2_with fail
          go_ret2
          exact AddPost.ok (HOKS.out HSN.out) HBEL6.out ⟨_, _, _, _, _, HBL6.out⟩ rfl
set_option maxRecDepth 100000 in
set_option maxHeartbeats 4000000 in
theorem add_while_new (bs : List BlkL) (a : Option Addr) (cap : Nat) (pl : Nat → Place) (base S i : Nat) (b : BlkL) (s : StL) (w : World) (hsrc : ∀ W, Below base w W → base ≤ W.heap.size → BlksAt W bs a cap pl) (hsz : base ≤ w.heap.size)
    (hb : bs[i]? = some b) (hvs : ∀ (j : Nat) (b : BlkL), bs[j]? = some b → validB b = true) (hok : StOK bs i s) (hlen : bs.length ≤ 2000) (hbld : BldSome base S s.progs s.mate s.op (numsOf s.progs) (labelsOf bs (lastFirst s.progs) i) w)
    (hk : b.kind = 4) (hlab : 0 < b.label ∧ b.label ∉ labelsOf bs (lastFirst s.progs) i) :
    Calls Try.prog 39 #[.pointer (some ⟨S, 0, none⟩), .slice a bs.length cap, .int .i64 i] w (AddPost bs b i s base S w) := by
  have k4 : (b.kind == 4) = true := by simp; omega
  have k5 : (b.kind == 5) = false := by simp; omega
  have k6 : (b.kind == 6) = false := by simp; omega
  have hv := hvs i b hb
  have hpb : progsB b i s = s.progs := if_neg (by omega)
  have l0 : decide (0 < b.label) = true := decide_eq_true hlab.1
  have LMEM := Lib.hid (show decide (b.label ∈ labelsOf bs (lastFirst s.progs) i) = false from decide_eq_false hlab.2)
  have hdl : dupL bs b i s = false := by
    unfold dupL
    rw [hpb]
    exact decide_eq_false fun h => hlab.2 h.2
  have HLABS := Lib.hid (show labelsOf bs (lastFirst s.progs) (i + 1) = labelsOf bs (lastFirst s.progs) i ++ [b.label] by rw [labelsOf_succ hb hok.first, if_pos hlab.1])
  have LWF := Lib.hid (wf_small (x := b.label) (by omega) (by have := valid_label (hvs i b hb); omega))
  have LKWF := Lib.hid (labels_wf hvs (lastFirst s.progs) i)
  have HERR := Lib.hid (fun hs : sameN bs b s = true => show stepB bs b i s = .err i 11 by
    unfold stepB
    rw [if_neg (by omega), if_neg (by omega), hdl, if_neg (by decide), if_pos hk, if_pos hs])
  have HOKS := Lib.hid (fun hs : sameN bs b s = false => show stepB bs b i s = .ok ⟨s.progs, s.mate ++ [-1], s.op ++ [i]⟩ by
    unfold stepB
    rw [if_neg (by omega), if_neg (by omega), hdl, if_neg (by decide), if_pos hk, if_neg (by rw [hs]; decide), hpb])
  have HLEN := Lib.hid (show i < bs.length ∧ bs.length ≤ 2000 from ⟨(List.getElem?_eq_some_iff.1 hb).1, hlen⟩)
  clear hk hlab hdl hvs hpb
  have hi : i < bs.length := (List.getElem?_eq_some_iff.1 hb).1
  have h0 := hsrc w (Below.refl _ _) hsz
  obtain ⟨hl, sb, so, rfl, hsb, hcc⟩ := h0.tab i hi
  have i0 : (0 : Int) ≤ (i : Int) := by omega
  have i1 : (i : Int) < (bs.length : Int) := by omega
  obtain ⟨vp, vm, vo, bn, bl, hbld⟩ := hbld
  have HOK := Lib.hid hok
  have HSRC := Lib.hid hsrc
  have HB := Lib.hid hb
  have HV := Lib.hid hv
  have hop := hok.few
  have hmt := hok.mate
  obtain ⟨lo, co, rfl⟩ := own_form hbld.op
  skip
  have HBLD := Lib.hid hbld
  have HMT := Lib.hid hmt
  have HSZ := Lib.hid hsz
  have hrow0 : ∀ j v, (blkC b (pl i))[j]? = some v → w.cell? ⟨sb, so + i * 11 + j, none⟩ = some v := fun j v hv => by
    rw [hcc j (by have := (List.getElem?_eq_some_iff.1 hv).1; simpa [blkC] using this), blksC_at HB.out]; exact hv
  have HR0 := Lib.hid hrow0
  clear hbld hok hsrc hb hv h0 hl hcc hmt hsz hrow0 hsb
  go_enter Try.func39, Try.ntmps39
  go_wp2_with fail
  refine region_L (fun W => (∀ j v, (blkC b (pl i))[j]? = some v → W.cell? ⟨sb, so + i * 11 + j, none⟩ = some v) ∧ W.cell? ⟨S, 2, none⟩ = some (.slice lo s.op.length co)) [] (by kernel_rfl) ?_
  have hS0 : (∀ j v, (blkC b (pl i))[j]? = some v → w.drew.cell? ⟨sb, so + i * 11 + j, none⟩ = some v) ∧ w.drew.cell? ⟨S, 2, none⟩ = some (.slice lo s.op.length co) := ⟨HR0.out, HBLD.out.blk.cell' 2 rfl⟩
  refine take_P 0 (v := .slice (some ⟨sb, so, none⟩) bs.length cap) rfl (by kernel_rfl) (by kernel_rfl) (by kernel_rfl) (fun _ _ _ h => h) rfl (fun W' => by go_simp) ?_
  refine take_P 1 (v := .int .i64 i) rfl (by kernel_rfl) (by kernel_rfl) (by kernel_rfl) (fun _ _ _ h => h) rfl (fun W' => by go_simp) ?_
  refine take_P 2 (v := .pointer (some ⟨sb, so + i * 11, none⟩)) rfl (by kernel_rfl) (by kernel_rfl) (by kernel_rfl) (fun _ _ _ h => h) rfl (fun W' => by go_simp) ?_
  refine take_L 3 (v := .agg (blkC b (pl i)).toArray) rfl (by kernel_rfl) (by kernel_rfl) (by kernel_rfl) (by kernel_rfl) (fun _ _ _ h => h) rfl (fun W' hW' => by exact exec_load 37 (.tmp 15) rfl ⟨sb, so + i * 11, none⟩ _ (by go_simp) (run_loadAt_mid W' sb (so + i * 11) 37 (blkC b (pl i)) _ hW'.1 Try.underlying37 rfl (by kernel_rfl))) hS0 ?_
  refine take_P 4 (v := .pointer (some ⟨S, 0, none⟩)) rfl (by kernel_rfl) (by kernel_rfl) (by kernel_rfl) (fun _ _ _ h => h) rfl (fun W' => by go_simp) ?_
  refine take_P 5 (v := .pointer (some ⟨S, 0, none⟩)) rfl (by kernel_rfl) (by kernel_rfl) (by kernel_rfl) (fun _ _ _ h => h) rfl (fun W' => by go_simp) ?_
  refine take_P 6 (v := .pointer (some ⟨S, 2, none⟩)) rfl (by kernel_rfl) (by kernel_rfl) (by kernel_rfl) (fun _ _ _ h => h) rfl (fun W' => by go_simp) ?_
  refine take_L 7 (v := .slice lo s.op.length co) rfl (by kernel_rfl) (by kernel_rfl) (by kernel_rfl) (by kernel_rfl) (fun _ _ _ h => h) rfl (fun W' hW' => by have e2 := hW'.2; clear hW'; go_simp) hS0 ?_
  refine take_P 8 (v := .int .i64 s.op.length) rfl (by kernel_rfl) (by kernel_rfl) (by kernel_rfl) (fun _ _ _ h => h) rfl (fun W' => by go_simp) ?_
  have hkeep : ∀ o : Obj, (∀ j v, (blkC b (pl i))[j]? = some v → (w.drew.alloc o).cell? ⟨sb, so + i * 11 + j, none⟩ = some v) ∧ (w.drew.alloc o).cell? ⟨S, 2, none⟩ = some (.slice lo s.op.length co) := fun o => by
    have hb1 : Below w.heap.size w (w.drew.alloc o) := ((Below.refl _ _).drew).alloc (Nat.le_refl _) o
    exact ⟨fun j v hv => (hb1.cell (p := ⟨sb, so + i * 11 + j, none⟩) (block_lt_of_cell (HR0.out j v hv))).trans (HR0.out j v hv), (HBLD.out.blk.below hb1 HBLD.out.blk.lt).cell' 2 rfl⟩
  refine one_L 9 (by kernel_rfl) rfl rfl fun K9 hK9 => ?_
  have HK9 := Lib.hid hK9
  clear hK9
  go_simp
  refine HK9.out _ _ (fun _ _ => hkeep _) ?_
  refine one_L 10 (by kernel_rfl) rfl rfl fun K10 hK10 => ?_
  have HK10 := Lib.hid hK10
  clear hK10
  refine wp_store_new (w := w.drew) 37 (.tmp 8) (.tmp 16) rfl #[.int .i64 0, .int .i64 0, .bool false, .slice none 0 0, .int .i64 0, .int .i64 0, .slice none 0 0, .int .i64 0, .int .i64 0, .slice none 0 0, .int .i64 0] (blkC b (pl i)).toArray rfl rfl (by kernel_rfl) rfl (all_oneCell_toArray blkC_one) ?_
  refine HK10.out _ _ (fun _ _ => hkeep _) ?_
  refine one_L 11 (by kernel_rfl) rfl rfl fun K11 hK11 => ?_
  have HK11 := Lib.hid hK11
  clear hK11
  go_simp
  refine HK11.out _ _ (fun _ _ => hkeep _) ?_
  refine done_L (by kernel_rfl) ?_ _
  have hst : AddSt w base S w.heap.size b (pl i) s.progs 0 s.mate s.op (numsOf s.progs) (labelsOf bs (lastFirst s.progs) i) vp vm (.slice lo s.op.length co) bn bl (w.drew.alloc (.cells (blkC b (pl i)).toArray 37)) := by
    have hb1 : Below w.heap.size w (w.drew.alloc (.cells (blkC b (pl i)).toArray 37)) := ((Below.refl _ _).drew).alloc (Nat.le_refl _) _
    refine ⟨HBLD.out.under hb1, Blk.new w.drew 37 _, hb1.mono HSZ.out, by have := HSZ.out; simp; omega⟩
  refine on_told (fun W => AddSt w base S w.heap.size b (pl i) s.progs 0 s.mate s.op (numsOf s.progs) (labelsOf bs (lastFirst s.progs) i) vp vm (.slice lo s.op.length co) bn bl W) hst fun W1 h1 => ?_
  clear hst hkeep hS0 HK9 HK10 HK11
  have H1 := Lib.hid h1
  have f1 := h1.bld.blk.cell 1
  have HM1 := Lib.hid (h1.bld.mate.alloc (.cells #[.int .i64 (-1)] 3))
  have HB1 := Lib.hid (Blk.new W1 3 #[.int .i64 (-1)])
  have HL1 := Lib.hid (show base ≤ (W1.alloc (.cells #[.int .i64 (-1)] 3)).heap.size by have := h1.size; simp; omega)
  clear h1
  go_simp
  go_wp2_with (at_builtin; refine wpList_push rfl (.tmp 26) (.tmp 27) 23 rfl base 3 (.int .i64 0) 1 8 Try.underlying23 infoInt rfl (by decide) (by decide) vm s.mate.length (intC s.mate) rfl HM1.out W1.heap.size [.int .i64 (-1)] rfl HB1.out rfl (by simp [Value.oneCell']) ?c1 HL1.out ?c2)
  case c1 => have := HMT.out; omega
  case c2 =>
    intro g c w2 hp
    have h2 := H1.out
    have hb1 : Below W1.heap.size W1 (W1.alloc (.cells #[.int .i64 (-1)] 3)) := (Below.refl _ _).alloc (Nat.le_refl _) _
    have hbl2 := (h2.bld.under hb1).pushMate hp
    have hS2 : Blk w2 S 69 _ := (h2.bld.blk.alloc _).grown hp.grown (own_ne h2.bld.mate h2.bld.blk (by decide))
    have hN2 : Blk w2 w.heap.size 37 (blkC b (pl i)).toArray := (h2.blk.alloc _).grown hp.grown (own_ne h2.bld.mate h2.blk (by decide))
    have hsz2 := h2.size
    have hsl2 := hp.grown.size
    have hst : AddSt w base S w.heap.size b (pl i) s.progs 0 (s.mate ++ [-1]) s.op (numsOf s.progs) (labelsOf bs (lastFirst s.progs) i) vp (.slice (some ⟨g, 0, none⟩) (s.mate.length + 1) c) (.slice lo s.op.length co) bn bl (w2.setCell ⟨S, 1, none⟩ (.slice (some ⟨g, 0, none⟩) (s.mate.length + 1) c)) := by
      refine ⟨hbl2, hN2.far (p := ⟨S, 1, none⟩) (fun e => ?_) _, ?_, by simp at hsl2 ⊢; omega⟩
      · have e' : w.heap.size = S := e
        rw [e'] at hN2
        unfold Blk at hN2 hS2
        rw [hS2] at hN2
        injection hN2 with hN2
        injection hN2 with _ hN2
        exact absurd hN2 (by decide)
      · exact ((h2.bel.alloc hsz2 _).trans (below_of_grown hp.grown (by simp; omega) (fun k e => (h2.bld.mate.lt k e).1))).setCell h2.bld.far.1 _
    have HST := Lib.hid hst
    have t1 := hS2.cell 1
    have z1 := hS2.frozen 1
    clear hst hp hS2 hN2 hbl2 h2 hb1 hsl2
    go_upto_region 3 with (fail)
    refine on_told (fun W => AddSt w base S w.heap.size b (pl i) s.progs 0 (s.mate ++ [-1]) s.op (numsOf s.progs) (labelsOf bs (lastFirst s.progs) i) vp (.slice (some ⟨g, 0, none⟩) (s.mate.length + 1) c) (.slice lo s.op.length co) bn bl W) HST.out fun W2 h2 => ?_
    clear HST t1 z1 HM1 HB1 HL1 H1 f1
    have H2 := Lib.hid h2
    have n0 := h2.kind
    have n1 := h2.label
    have n6 := h2.n
    clear h2
    go_wp2_with fail
    refine region_L (fun W => AddSt w base S w.heap.size b (pl i) s.progs 0 (s.mate ++ [-1]) s.op (numsOf s.progs) (labelsOf bs (lastFirst s.progs) i) vp (.slice (some ⟨g, 0, none⟩) (s.mate.length + 1) c) (.slice lo s.op.length co) bn bl W) [] (by kernel_rfl) ?_
    have hS0 := H2.out.drew
    refine take_P 0 (v := .pointer (some ⟨S, 0, none⟩)) rfl (by kernel_rfl) (by kernel_rfl) (by kernel_rfl) (fun _ _ _ h => h) rfl (fun W' => by go_simp) ?_
    refine take_P 1 (v := .pointer (some ⟨S, 0, none⟩)) rfl (by kernel_rfl) (by kernel_rfl) (by kernel_rfl) (fun _ _ _ h => h) rfl (fun W' => by go_simp) ?_
    refine take_P 2 (v := .pointer (some ⟨S, 4, none⟩)) rfl (by kernel_rfl) (by kernel_rfl) (by kernel_rfl) (fun _ _ _ h => h) rfl (fun W' => by go_simp) ?_
    refine take_L 3 (v := .map (some bl)) rfl (by kernel_rfl) (by kernel_rfl) (by kernel_rfl) (by kernel_rfl) (fun _ _ _ h => h) rfl (fun W' hW' => by have e4 := hW'.bld.blk.cell' 4 rfl; clear hW'; go_simp) hS0 ?_
    refine take_P 4 (v := .pointer (some ⟨w.heap.size, 1, none⟩)) rfl (by kernel_rfl) (by kernel_rfl) (by kernel_rfl) (fun _ _ _ h => h) rfl (fun W' => by go_simp) ?_
    refine take_L 5 (v := .int .i64 b.label) rfl (by kernel_rfl) (by kernel_rfl) (by kernel_rfl) (by kernel_rfl) (fun _ _ _ h => h) rfl (fun W' hW' => by have e4 := hW'.label; clear hW'; go_simp) hS0 ?_
    refine take_L 6 (v := .bool false) rfl (by kernel_rfl) (by kernel_rfl) (by kernel_rfl) (by kernel_rfl) (fun _ _ _ h => h) rfl (fun W' hW' => by exact exec_lookup 67 (.tmp 94) (.tmp 96) rfl (.map (some bl)) (.int .i64 b.label) (.bool false) (by go_simp) (by go_simp) (by have h9 := hW'.bld.labs.look Try.underlying3 Try.underlying67 (zero_bool W') LWF.out LKWF.out; rw [LMEM.out] at h9; exact h9)) hS0 ?_
    refine done_L (by kernel_rfl) ?_ _
    refine on_told (fun W => AddSt w base S w.heap.size b (pl i) s.progs 0 (s.mate ++ [-1]) s.op (numsOf s.progs) (labelsOf bs (lastFirst s.progs) i) vp (.slice (some ⟨g, 0, none⟩) (s.mate.length + 1) c) (.slice lo s.op.length co) bn bl W) hS0 fun W3 h3 => ?_
    clear hS0 H2 n0 n1 n6
    have H2 := Lib.hid h3
    have n0 := h3.kind
    have n1 := h3.label
    have n6 := h3.n
    clear h3
    go_simp
    go_wp2_with fail
    refine region_L (fun W => AddSt w base S w.heap.size b (pl i) s.progs 0 (s.mate ++ [-1]) s.op (numsOf s.progs) (labelsOf bs (lastFirst s.progs) i) vp (.slice (some ⟨g, 0, none⟩) (s.mate.length + 1) c) (.slice lo s.op.length co) bn bl W) [6] (by kernel_rfl) ?_
    have hS0 := H2.out.drew
    refine take_P 0 (v := .pointer (some ⟨S, 0, none⟩)) rfl (by kernel_rfl) (by kernel_rfl) (by kernel_rfl) (fun _ _ _ h => h) rfl (fun W' => by go_simp) ?_
    refine take_P 1 (v := .pointer (some ⟨S, 0, none⟩)) rfl (by kernel_rfl) (by kernel_rfl) (by kernel_rfl) (fun _ _ _ h => h) rfl (fun W' => by go_simp) ?_
    refine take_P 2 (v := .pointer (some ⟨S, 4, none⟩)) rfl (by kernel_rfl) (by kernel_rfl) (by kernel_rfl) (fun _ _ _ h => h) rfl (fun W' => by go_simp) ?_
    refine take_L 3 (v := .map (some bl)) rfl (by kernel_rfl) (by kernel_rfl) (by kernel_rfl) (by kernel_rfl) (fun _ _ _ h => h) rfl (fun W' hW' => by have e4 := hW'.bld.blk.cell' 4 rfl; clear hW'; go_simp) hS0 ?_
    refine take_P 4 (v := .pointer (some ⟨w.heap.size, 1, none⟩)) rfl (by kernel_rfl) (by kernel_rfl) (by kernel_rfl) (fun _ _ _ h => h) rfl (fun W' => by go_simp) ?_
    refine take_L 5 (v := .int .i64 b.label) rfl (by kernel_rfl) (by kernel_rfl) (by kernel_rfl) (by kernel_rfl) (fun _ _ _ h => h) rfl (fun W' hW' => by have e4 := hW'.label; clear hW'; go_simp) hS0 ?_
    obtain ⟨w9, hrun, hset, hgr⟩ := hS0.bld.labs.store (P := Try.prog) Try.underlying3 Try.underlying67 LWF.out LKWF.out (of_decide_eq_false LMEM.out)
    have hst9 : AddSt w base S w.heap.size b (pl i) s.progs 0 (s.mate ++ [-1]) s.op (numsOf s.progs) (labelsOf bs (lastFirst s.progs) (i + 1)) vp (.slice (some ⟨g, 0, none⟩) (s.mate.length + 1) c) (.slice lo s.op.length co) bn bl w9 := by
      rw [HLABS.out]
      exact add_lab hS0 hset hgr
    refine one_L 6 (by kernel_rfl) rfl rfl fun K6 hK6 => ?_
    have HK6 := Lib.hid hK6
    clear hK6
    go_simp
    refine HK6.out _ _ (fun h => absurd h (by decide)) ?_
    refine done_L (by kernel_rfl) ?_ _
    refine on_told (fun W => AddSt w base S w.heap.size b (pl i) s.progs 0 (s.mate ++ [-1]) s.op (numsOf s.progs) (labelsOf bs (lastFirst s.progs) (i + 1)) vp (.slice (some ⟨g, 0, none⟩) (s.mate.length + 1) c) (.slice lo s.op.length co) bn bl W) hst9 fun W3 h3 => ?_
    clear hS0 H2 n0 n1 n6 hst9 hrun hset hgr HK6
    have H3 := Lib.hid h3
    have n0 := h3.kind
    have n1 := h3.label
    have n6 := h3.n
    clear h3
    go_simp
    have f2 := H3.out.bld.blk.cell 2
    go_wp2_with fail
    go_loopw [114] (fun s1 W => ∃ j : Nat, j ≤ s.op.length ∧ s1 = .int .i64 j ∧ (∀ (q t : Nat), q < j → s.op[q]? = some t → nOf bs t ≠ b.n) ∧ AddSt w base S w.heap.size b (pl i) s.progs 0 (s.mate ++ [-1]) s.op (numsOf s.progs) (labelsOf bs (lastFirst s.progs) (i + 1)) vp (.slice (some ⟨g, 0, none⟩) (s.mate.length + 1) c) (.slice lo s.op.length co) bn bl W) (fun s1 _ => s.op.length - (intOf s1).toNat)
    case atStart => exact ⟨0, by omega, rfl, fun q t h => by omega, H3.out⟩
    case round =>
      rename World => wx
      obtain ⟨j, hj, rfl, hall, hst⟩ := hrel
      have HA := Lib.hid hall
      have H4 := Lib.hid hst
      have j0 : (0 : Int) ≤ (j : Int) := by omega
      clear hall
      by_cases hlt : j < s.op.length
      · have d1 : decide (j < s.op.length) = true := by simpa using hlt
        have j1 : (j : Int) < (s.op.length : Int) := by omega
        have ht : s.op[j]? = some s.op[j] := List.getElem?_eq_getElem hlt
        generalize s.op[j] = t at ht
        have hti := HOK.out.op t (List.mem_of_getElem? ht)
        obtain ⟨go, rfl, hgo1, hgo2, c0⟩ := op_at hst.bld ht
        have t0 : (0 : Int) ≤ (t : Int) := by omega
        have t1 : (t : Int) < (bs.length : Int) := by omega
        have HT := Lib.hid ht
        have HTL := Lib.hid (show t < bs.length by omega)
        clear ht hst
        by_cases he : nOf bs t = b.n
        · have he' : (nOf bs t == b.n) = true := by simpa using he
          have HSN := Lib.hid (show sameN bs b s = true from List.any_eq_true.2 ⟨t, List.mem_of_getElem? HT.out, by simpa using he⟩)
          clear he
          go_wp2_with fail
          refine region_L (fun W => AddSt w base S w.heap.size b (pl i) s.progs 0 (s.mate ++ [-1]) s.op (numsOf s.progs) (labelsOf bs (lastFirst s.progs) (i + 1)) vp (.slice (some ⟨g, 0, none⟩) (s.mate.length + 1) c) (.slice (some ⟨go, 0, none⟩) s.op.length co) bn bl W) [] (by kernel_rfl) ?_
          have hS0 := H4.out.drew
          refine take_P 0 (v := .slice (some ⟨sb, so, none⟩) bs.length cap) rfl (by kernel_rfl) (by kernel_rfl) (by kernel_rfl) (fun _ _ _ h => h) rfl (fun W' => by go_simp) ?_
          refine take_P 1 (v := .int .i64 t) rfl (by kernel_rfl) (by kernel_rfl) (by kernel_rfl) (fun _ _ _ h => h) rfl (fun W' => by go_simp) ?_
          refine take_P 2 (v := .pointer (some ⟨sb, so + t * 11, none⟩)) rfl (by kernel_rfl) (by kernel_rfl) (by kernel_rfl) (fun _ _ _ h => h) rfl (fun W' => by go_simp) ?_
          refine take_P 3 (v := .pointer (some ⟨sb, so + t * 11 + 10, none⟩)) rfl (by kernel_rfl) (by kernel_rfl) (by kernel_rfl) (fun _ _ _ h => h) rfl (fun W' => by go_simp) ?_
          refine take_L 4 (v := .int .i64 (nOf bs t)) rfl (by kernel_rfl) (by kernel_rfl) (by kernel_rfl) (by kernel_rfl) (fun _ _ _ h => h) rfl (fun W' hW' => by have e4 := blk_n (HSRC.out W' hW'.bel hW'.size) HTL.out; clear hW'; go_simp) hS0 ?_
          refine take_P 5 (v := .pointer (some ⟨w.heap.size, 10, none⟩)) rfl (by kernel_rfl) (by kernel_rfl) (by kernel_rfl) (fun _ _ _ h => h) rfl (fun W' => by go_simp) ?_
          refine take_L 6 (v := .int .i64 b.n) rfl (by kernel_rfl) (by kernel_rfl) (by kernel_rfl) (by kernel_rfl) (fun _ _ _ h => h) rfl (fun W' hW' => by have e4 := hW'.n; clear hW'; go_simp) hS0 ?_
          refine take_P 7 (v := .bool true) rfl (by kernel_rfl) (by kernel_rfl) (by kernel_rfl) (fun _ _ _ h => h) rfl (fun W' => by go_simp) ?_
          refine done_L (by kernel_rfl) ?_ _
          refine on_told (fun W => AddSt w base S w.heap.size b (pl i) s.progs 0 (s.mate ++ [-1]) s.op (numsOf s.progs) (labelsOf bs (lastFirst s.progs) (i + 1)) vp (.slice (some ⟨g, 0, none⟩) (s.mate.length + 1) c) (.slice (some ⟨go, 0, none⟩) s.op.length co) bn bl W) hS0 fun W5 h5 => ?_
          clear hS0 c0
          have H5 := Lib.hid h5
          clear h5
          go_simp
          go_wp2_with fail
          go_ret2
          exact AddPost.err (HERR.out HSN.out) H5.out.bel rfl
        · have he' : (nOf bs t == b.n) = false := by simpa using he
          have HE := Lib.hid he
          clear he
          go_wp2_with fail
          refine region_L (fun W => AddSt w base S w.heap.size b (pl i) s.progs 0 (s.mate ++ [-1]) s.op (numsOf s.progs) (labelsOf bs (lastFirst s.progs) (i + 1)) vp (.slice (some ⟨g, 0, none⟩) (s.mate.length + 1) c) (.slice (some ⟨go, 0, none⟩) s.op.length co) bn bl W) [] (by kernel_rfl) ?_
          have hS0 := H4.out.drew
          refine take_P 0 (v := .slice (some ⟨sb, so, none⟩) bs.length cap) rfl (by kernel_rfl) (by kernel_rfl) (by kernel_rfl) (fun _ _ _ h => h) rfl (fun W' => by go_simp) ?_
          refine take_P 1 (v := .int .i64 t) rfl (by kernel_rfl) (by kernel_rfl) (by kernel_rfl) (fun _ _ _ h => h) rfl (fun W' => by go_simp) ?_
          refine take_P 2 (v := .pointer (some ⟨sb, so + t * 11, none⟩)) rfl (by kernel_rfl) (by kernel_rfl) (by kernel_rfl) (fun _ _ _ h => h) rfl (fun W' => by go_simp) ?_
          refine take_P 3 (v := .pointer (some ⟨sb, so + t * 11 + 10, none⟩)) rfl (by kernel_rfl) (by kernel_rfl) (by kernel_rfl) (fun _ _ _ h => h) rfl (fun W' => by go_simp) ?_
          refine take_L 4 (v := .int .i64 (nOf bs t)) rfl (by kernel_rfl) (by kernel_rfl) (by kernel_rfl) (by kernel_rfl) (fun _ _ _ h => h) rfl (fun W' hW' => by have e4 := blk_n (HSRC.out W' hW'.bel hW'.size) HTL.out; clear hW'; go_simp) hS0 ?_
          refine take_P 5 (v := .pointer (some ⟨w.heap.size, 10, none⟩)) rfl (by kernel_rfl) (by kernel_rfl) (by kernel_rfl) (fun _ _ _ h => h) rfl (fun W' => by go_simp) ?_
          refine take_L 6 (v := .int .i64 b.n) rfl (by kernel_rfl) (by kernel_rfl) (by kernel_rfl) (by kernel_rfl) (fun _ _ _ h => h) rfl (fun W' hW' => by have e4 := hW'.n; clear hW'; go_simp) hS0 ?_
          refine take_P 7 (v := .bool false) rfl (by kernel_rfl) (by kernel_rfl) (by kernel_rfl) (fun _ _ _ h => h) rfl (fun W' => by go_simp) ?_
          refine done_L (by kernel_rfl) ?_ _
          refine on_told (fun W => AddSt w base S w.heap.size b (pl i) s.progs 0 (s.mate ++ [-1]) s.op (numsOf s.progs) (labelsOf bs (lastFirst s.progs) (i + 1)) vp (.slice (some ⟨g, 0, none⟩) (s.mate.length + 1) c) (.slice (some ⟨go, 0, none⟩) s.op.length co) bn bl W) hS0 fun W5 h5 => ?_
          clear hS0 c0
          have H5 := Lib.hid h5
          clear h5
          go_simp
          go_wp2_with fail
          go_roundw
          case rel => exact ⟨j + 1, by omega, by go_num, fun q t' hq ht' => by
            by_cases e : q = j
            · subst e
              rw [HT.out] at ht'
              injection ht' with ht'
              subst ht'
              exact HE.out
            · exact HA.out q t' (by omega) ht', H5.out⟩
          case measure => simp [intOf]; omega
      · obtain rfl : j = s.op.length := by omega
        have d1 : decide (s.op.length < s.op.length) = false := by simp
        have HSN := Lib.hid (show sameN bs b s = false from List.any_eq_false.2 fun t ht => by
          obtain ⟨q, hq⟩ := List.mem_iff_getElem?.1 ht
          simpa using HA.out q t (List.getElem?_eq_some_iff.1 hq).1 hq)
        have f2 := hst.bld.blk.cell 2
        have z2 := hst.bld.blk.frozen 2
        have HOP := Lib.hid (hst.bld.op.alloc (.cells #[.int .i64 i] 3))
        have HB4 := Lib.hid (Blk.new wx 3 #[.int .i64 i])
        have HL4 := Lib.hid (show base ≤ (wx.alloc (.cells #[.int .i64 i] 3)).heap.size by have := hst.size; simp; omega)
        clear hst
        go_wp2_with (at_builtin; refine wpList_push rfl (.tmp 132) (.tmp 134) 23 rfl base 3 (.int .i64 0) 1 8 Try.underlying23 infoInt rfl (by decide) (by decide) (.slice lo s.op.length co) s.op.length (intC (s.op.map (fun n : Nat => (n : Int)))) rfl HOP.out wx.heap.size [.int .i64 i] rfl HB4.out rfl (by simp [Value.oneCell']) ?c3 HL4.out ?c4)
        case c3 => have := HOK.out.few; have := HLEN.out; omega
        case c4 =>
          intro g6 c6 w6 hp
          have h4 := H4.out
          have hb1 : Below wx.heap.size wx (wx.alloc (.cells #[.int .i64 i] 3)) := (Below.refl _ _).alloc (Nat.le_refl _) _
          have hbl6 := (h4.bld.under hb1).pushOp hp
          have hS6 : Blk w6 S 69 _ := (h4.bld.blk.alloc _).grown hp.grown (own_ne h4.bld.op h4.bld.blk (by decide))
          have hsz6 := h4.size
          have HBEL6 := Lib.hid ((((h4.bel.alloc hsz6 _).trans (below_of_grown hp.grown (by simp; omega) (fun k e => (h4.bld.op.lt k e).1))).setCell h4.bld.far.1 _ : Below base w (w6.setCell ⟨S, 2, none⟩ (.slice (some ⟨g6, 0, none⟩) (s.op.length + 1) c6))))
          have HBL6 := Lib.hid hbl6
          have t2 := hS6.cell 2
          have y2 := hS6.frozen 2
          clear hp hS6 hbl6 h4 hb1 f2 z2
          go_wp2_with fail
          go_ret2
          exact AddPost.ok (HOKS.out HSN.out) HBEL6.out ⟨_, _, _, _, _, HBL6.out⟩ rfl
end Go.Proofs.Yteiogjgmedikhaa
