/-
  cncref09.Build.
-/
import Derived.Test.YteiogjgmedikhaaFind09
import Derived.IntWalk
namespace Go.Proofs.Yteiogjgmedikhaa
open Go Go.RowKit
set_option linter.unusedVariables false

/-- The two variables of the call's own. -/
structure Two (w : World) (wr : World) : Prop where
  r : Blk wr w.heap.size 42 #[.slice none 0 0, .slice none 0 0, .slice none 0 0]
  n : Blk wr (w.heap.size + 1) 42 #[.slice none 0 0, .slice none 0 0, .slice none 0 0]
  bel : Below w.heap.size w wr
theorem Two.below {w wr w' : World} (h : Two w wr) (hb : Below wr.heap.size wr w') : Two w w' := ⟨h.r.below hb h.r.lt, h.n.below hb h.n.lt, h.bel.trans (hb.mono h.bel.size)⟩
theorem two_new (w : World) : Two w ((w.alloc (.cells #[.slice none 0 0, .slice none 0 0, .slice none 0 0] 42)).alloc (.cells #[.slice none 0 0, .slice none 0 0, .slice none 0 0] 42)) := ⟨(Blk.new w 42 #[.slice none 0 0, .slice none 0 0, .slice none 0 0]).alloc _, by
  have := Blk.new (w.alloc (.cells #[.slice none 0 0, .slice none 0 0, .slice none 0 0] 42)) 42 #[.slice none 0 0, .slice none 0 0, .slice none 0 0]
  simpa using this, ((Below.refl _ _).alloc (Nat.le_refl _) _).alloc (by simp) _⟩
theorem rbld_start (base : Nat) (vb : Value) (W : World) (hb : base ≤ W.heap.size) : RBldAt base (W.heap.size + 1) vb [(0, 0)] 0 [] [] (.slice (some ⟨W.heap.size, 0, none⟩) 1 1) (.slice none 0 0) (.slice none 0 0)
    ((W.alloc (.cells #[.int .i64 0, .int .i64 0, .int .i64 0] 55)).alloc (.cells #[vb, .slice (some ⟨W.heap.size, 0, none⟩) 1 1, .slice none 0 0] 42)) := by
  have hp := (Blk.new W 55 #[.int .i64 0, .int .i64 0, .int .i64 0]).alloc (.cells #[vb, .slice (some ⟨W.heap.size, 0, none⟩) 1 1, .slice none 0 0] 42)
  have hS := Blk.new (W.alloc (.cells #[.int .i64 0, .int .i64 0, .int .i64 0] 55)) 42 #[vb, .slice (some ⟨W.heap.size, 0, none⟩) 1 1, .slice none 0 0]
  rw [World.size_alloc] at hS
  refine ⟨hS, ?_, World.ownsRow_nil _ _ _ _, World.ownsRow_nil _ _ _ _, (fun q h => by cases h), by omega⟩
  exact ⟨by rfl, .inr ⟨W.heap.size, 1, _, rfl, hb, hp, Nat.le_refl _, by decide, by rfl, rfl⟩⟩
theorem cell_set3 {W : World} {R : Nat} {u v z x : Value} {p : Addr} (hp : p.block ≠ R) (h : W.cell? p = some x) : (((W.setCell ⟨R, 0, none⟩ u).setCell ⟨R, 1, none⟩ v).setCell ⟨R, 2, none⟩ z).cell? p = some x := by
  have a1 : ∀ (W : World) (j : Nat) (y : Value), W.cell? p = some x → (W.setCell ⟨R, j, none⟩ y).cell? p = some x := fun W j y hx => by
    rw [World.cell?_setCell_other _ _ _ _ (fun e => hp (by rw [← e]))]; exact hx
  exact a1 _ _ _ (a1 _ _ _ (a1 _ _ _ h))
/-- The state of a round: the library under way, the copy of the block. -/
structure RSt (W1 : World) (L : Nat) (vb : Value) (Nb : Nat) (b : BlkL) (p : Place) (P : List (Int × Nat)) (e : Nat) (M : List Int) (O : List Nat) (vp vm vo : Value) (W : World) : Prop where
  bld : RBldAt W1.heap.size L vb P e M O vp vm vo W
  blk : Blk W Nb 37 (blkC b p).toArray
  bel : Below W1.heap.size W1 W
theorem RSt.under {W1 : World} {L : Nat} {vb : Value} {Nb : Nat} {b : BlkL} {p : Place} {P : List (Int × Nat)} {e : Nat} {M : List Int} {O : List Nat} {vp vm vo : Value} {W W' : World} (h : RSt W1 L vb Nb b p P e M O vp vm vo W) (hb : Below W.heap.size W W') :
    RSt W1 L vb Nb b p P e M O vp vm vo W' := ⟨h.bld.under hb, h.blk.below hb h.blk.lt, h.bel.trans (hb.mono h.bel.size)⟩
theorem mm_len {bs : List BlkL} {i : Nat} {s : StL} (h : StOK bs i s) (hi : i ≤ bs.length) : (s.mate ++ List.replicate (bs.length - i) (-1)).length = bs.length := by
  simp [h.mate]; omega
theorem mm_succ {n i : Nat} (M : List Int) (hi : i < n) : (M ++ [-1]) ++ List.replicate (n - (i + 1)) (-1) = M ++ List.replicate (n - i) (-1) := by
  rw [List.append_assoc]
  congr 1
  rw [show n - i = (n - (i + 1)) + 1 by omega, List.replicate_succ]
  rfl
theorem mm_set {n i t : Nat} {M : List Int} (hM : M.length = i) (hi : i < n) (ht : t < i) (x y : Int) : ((M ++ [-1]).set t x).set i y ++ List.replicate (n - (i + 1)) (-1) = ((M ++ List.replicate (n - i) (-1)).set t x).set i y := by
  rw [← mm_succ M hi]
  have hA : (M ++ [(-1 : Int)]).length = i + 1 := by simp [hM]
  generalize M ++ [(-1 : Int)] = A at *
  generalize List.replicate (n - (i + 1)) (-1 : Int) = R
  have h1 : (A ++ R).set t x = A.set t x ++ R := List.set_append_left t x (by omega)
  have h2 : (A.set t x ++ R).set i y = (A.set t x).set i y ++ R := List.set_append_left i y (by rw [List.length_set]; omega)
  rw [h1, h2]
theorem lastFirst_at {P : List (Int × Nat)} {q : Nat} (h : P.length = q + 1) : (P.getD q (0, 0)).2 = lastFirst P := by
  have hne : P ≠ [] := by intro e; rw [e] at h; cases h
  unfold lastFirst
  rw [List.getLast?_eq_getElem?, h, Nat.add_sub_cancel, List.getD]
  have hq : q < P.length := by omega
  simp [hq]
theorem blk_label {W : World} {bs : List BlkL} {sb so cap : Nat} {pl : Nat → Place} (h : BlksAt W bs (some ⟨sb, so, none⟩) cap pl) {t : Nat} {b : BlkL} (hb : bs[t]? = some b) : W.cell? ⟨sb, so + t * 11 + 1, none⟩ = some (.int .i64 b.label) := by
  obtain ⟨_, b', o, e, _, hc⟩ := h.tab t (List.getElem?_eq_some_iff.1 hb).1
  injection e with e
  injection e with e1 e2
  subst e1 e2
  rw [hc 1 (by decide), blksC_at hb]
  rfl
theorem prog_len {bs : List BlkL} {i n : Nat} {s : StL} (h : StOK bs i s) (hi : i ≤ n) : ∃ q, s.progs.length = q + 1 ∧ q ≤ n := by
  obtain ⟨r, e, h1, _⟩ := h.progs
  exact ⟨r.length, by rw [e]; rfl, by omega⟩
theorem prog_len' {bs : List BlkL} {i n : Nat} {s : StL} (h : StOK bs i s) (hi : i < n) (p : Int × Nat) : ∃ q, (s.progs ++ [p]).length = q + 1 ∧ q ≤ n := by
  obtain ⟨r, e, h1, _⟩ := h.progs
  exact ⟨s.progs.length, by simp, by rw [e]; simp; omega⟩
set_option maxRecDepth 100000 in
set_option maxHeartbeats 4000000 in
theorem rbuild_big (bs : List BlkL) (a : Option Addr) (cap : Nat) (w : World) (hlen : 2000 < bs.length) (hc : bs.length ≤ 9223372036854775807) : Calls Try.prog 23 #[.slice a bs.length cap] w (LibPost bs w) := by
  have HB := Lib.hid (show buildB bs = .err 0 10 from if_pos hlen)
  have d1 : decide (2000 < (bs.length : Int)) = true := decide_eq_true (by omega)
  have HT := Lib.hid (two_new w)
  clear hlen
  go_enter Try.func23, Try.ntmps23
  go_wp2_with fail
  refine bodyPost_ret (v := .tuple #[libV 0 0 0 none 0 none 0 none 0, .int .i64 0, .int .i64 10]) (by simp [results, Try.results23, go_sem, libV]) rfl ?_
  exact LibPost.err HB.out (by first | exact HT.out.bel | exact ((HT.out.bel.setCell (by simp) _).setCell (by simp) _).setCell (by simp) _) rfl
set_option maxRecDepth 100000 in
set_option maxHeartbeats 8000000 in
theorem rbuild_any (bs : List BlkL) (a : Option Addr) (cap : Nat) (pl : Nat → Place) (w : World) (h : BlksAt w bs a cap pl) : Calls Try.prog 23 #[.slice a bs.length cap] w (LibPost bs w) := by
  by_cases hlen : 2000 < bs.length
  · exact rbuild_big bs a cap w hlen (by have := h.most; omega)
  have hlen : bs.length ≤ 2000 := by omega
  have H := Lib.hid h
  have HLEN := Lib.hid hlen
  have d0 : decide (2000 < (bs.length : Int)) = false := decide_eq_false (by omega)
  have T0 := Lib.hid (two_new w)
  clear h
  go_enter Try.func23, Try.ntmps23
  go_wp2_with fail
  go_loopw [6] (fun s1 wr => ∃ i : Nat, i ≤ bs.length ∧ s1 = .int .i64 i ∧ (∀ (j : Nat) (b : BlkL), j < i → bs[j]? = some b → validB b = true) ∧ Two w wr) (fun s1 _ => bs.length - (intOf s1).toNat)
  case atStart => exact ⟨0, by omega, rfl, fun j b h => by omega, T0.out⟩
  case round =>
    obtain ⟨i, hi, rfl, hall, htw⟩ := hrel
    have HA := Lib.hid hall
    have HTW := Lib.hid htw
    have i0 : (0 : Int) ≤ (i : Int) := by omega
    clear hall
    by_cases hlt : i < bs.length
    · have d1 : decide (i < bs.length) = true := by simpa using hlt
      have i1 : (i : Int) < (bs.length : Int) := by omega
      have hb : bs[i]? = some bs[i] := List.getElem?_eq_getElem hlt
      generalize bs[i] = b at hb
      obtain ⟨hl, sb, so, rfl, hsb, hcc⟩ := H.out.tab i hlt
      have r0 : wr.rangeAt sb (so + i * 11) (blkC b (pl i)) := fun j v hv => by
        rw [htw.bel.cell (p := ⟨sb, so + i * 11 + j, none⟩) hsb, hcc j (by have := (List.getElem?_eq_some_iff.1 hv).1; simpa [blkC] using this), blksC_at hb]
        exact hv
      have KV := Lib.hid (fun W (hW : Below w.heap.size w W) => rvalid_any b (pl i) W ((H.out.blk i b hb).under hW))
      have HB := Lib.hid hb
      clear hl hcc hb hsb htw
      go_wp2_with (first
        | ((with_reducible refine wpList_load_mid (P := Try.prog) rfl 37 (.tmp 30) rfl sb (so + i * 11) rfl (blkC b (pl i)) _ r0 Try.underlying37 rfl (by kernel_rfl) ?_)))
      refine (KV.out _ HTW.out.bel).mono ?_
      rintro e w2 ⟨rfl, b2⟩
      have K2 := Lib.hid (HTW.out.below b2)
      clear b2 r0
      cases hv : validB b with
      | true =>
        go_wp2_with fail
        go_roundw
        case rel => exact ⟨i + 1, by omega, by go_num, fun j b' hj hb' => by
          by_cases e : j = i
          · subst e
            rw [HB.out] at hb'
            injection hb' with hb'
            rw [← hb']
            exact hv
          · exact HA.out j b' (by omega) hb', K2.out⟩
        case measure => simp [intOf]; omega
      | false =>
        have HR := Lib.hid (build_bad HLEN.out HA.out HB.out hv)
        clear hv
        have r0 := (K2.out).r.cell 0
        have r1 := (K2.out).r.cell 1
        have r2 := (K2.out).r.cell 2
        have s0 := (K2.out).r.frozen 0
        have s1 := (K2.out).r.frozen 1
        have s2 := (K2.out).r.frozen 2
        have n0 := (K2.out).n.cell 0
        have n1 := (K2.out).n.cell 1
        have n2 := (K2.out).n.cell 2
        go_wp2_with fail
        refine bodyPost_ret (v := .tuple #[libV 0 0 0 none 0 none 0 none 0, .int .i64 i, .int .i64 1]) (by simp [results, Try.results23, go_sem, libV, r0, r1, r2]) rfl ?_
        exact LibPost.err HR.out (((K2.out.bel.setCell (by simp) _).setCell (by simp) _).setCell (by simp) _) rfl
    · obtain rfl : i = bs.length := by omega
      have d1 : decide (bs.length < bs.length) = false := by simp
      have HV := Lib.hid (fun (j : Nat) (b : BlkL) (hb : bs[j]? = some b) => HA.out j b (List.getElem?_eq_some_iff.1 hb).1 hb)
      have HBU := Lib.hid (build_run HLEN.out HV.out)
      have KC := Lib.hid (rcopyB_any bs a cap pl wr (H.out.under htw.bel) (fun i b hb => slim_of_valid (HV.out i b hb)) (by omega))
      clear htw
      go_wp2_with fail
      refine KC.out.mono ?_
      rintro e W1 ⟨ab, cb, plb, rfl, hbl, b5⟩
      have T1 := Lib.hid (HTW.out.below b5)
      have HBL := Lib.hid hbl
      have B5 := Lib.hid b5
      clear hbl b5
      go_wp2_with (first
        | ((with_reducible refine wpList_prog1 rfl (.tmp 38) (.int .i64 0) (.int .i64 0) (.int .i64 0) rfl rfl ?_)))
      have HS0 := Lib.hid (rbld_start W1.heap.size (.slice ab bs.length cb) W1 (Nat.le_refl _))
      have B01 := Lib.hid (show Below W1.heap.size W1 ((W1.alloc (.cells #[.int .i64 0, .int .i64 0, .int .i64 0] 55)).alloc (.cells #[(.slice ab bs.length cb), (.slice (some ⟨W1.heap.size, 0, none⟩) 1 1), .slice none 0 0] 42)) from ((Below.refl _ _).alloc (Nat.le_refl _) _).alloc (by simp) _)
      go_loopw [9] (fun s1 wr => ∃ i : Nat, i ≤ bs.length ∧ s1 = .int .i64 i ∧ ∃ vm, RBldAt W1.heap.size (W1.heap.size + 1) (.slice ab bs.length cb) [(0, 0)] 0 (List.replicate i (-1)) [] (.slice (some ⟨W1.heap.size, 0, none⟩) 1 1) vm (.slice none 0 0) wr ∧ Below W1.heap.size W1 wr) (fun s1 _ => bs.length - (intOf s1).toNat)
      case atStart => exact ⟨0, by omega, rfl, _, HS0.out, B01.out⟩
      case round =>
        rename World => wx
        obtain ⟨i, hi, rfl, vm, hbd, hbx⟩ := hrel
        have HBD := Lib.hid hbd
        have BX := Lib.hid hbx
        have i0 : (0 : Int) ≤ (i : Int) := by omega
        by_cases hlt : i < bs.length
        · have d1 : decide (i < bs.length) = true := by simpa using hlt
          have i1 : (i : Int) < (bs.length : Int) := by omega
          have f2 := hbd.blk.cell 2
          have hML : (List.replicate i (-1 : Int)).length = i := by simp
          have hmt := hbd.mate
          rw [hML] at hmt
          have HM1 := Lib.hid (hmt.alloc (.cells #[.int .i64 (-1)] 3))
          have HB1 := Lib.hid (Blk.new wx 3 #[.int .i64 (-1)])
          have HL1 := Lib.hid (show W1.heap.size ≤ (wx.alloc (.cells #[.int .i64 (-1)] 3)).heap.size by have := hbx.size; simp; omega)
          clear hbd hbx hmt hML
          go_wp2_with (at_builtin; refine wpList_push rfl (.tmp 48) (.tmp 49) 23 rfl W1.heap.size 3 (.int .i64 0) 1 8 Try.underlying23 infoInt rfl (by decide) (by decide) vm i (intC (List.replicate i (-1))) rfl HM1.out wx.heap.size [.int .i64 (-1)] rfl HB1.out rfl (by simp [Value.oneCell']) ?c1 HL1.out ?c2)
          case c1 => omega
          case c2 =>
            intro g c w2 hp
            have h2 := HBD.out
            have hb1 : Below wx.heap.size wx (wx.alloc (.cells #[.int .i64 (-1)] 3)) := (Below.refl _ _).alloc (Nat.le_refl _) _
            have hML : (List.replicate i (-1 : Int)).length = i := by simp
            have hp' : Pushed (wx.alloc (.cells #[.int .i64 (-1)] 3)) W1.heap.size 3 1 vm (List.replicate i (-1 : Int)).length (intC (List.replicate i (-1))) [.int .i64 (-1)] g c w2 := by rw [hML]; exact hp
            have hbl2 := (h2.under hb1).pushMate hp'
            rw [hML, ← List.replicate_succ'] at hbl2
            have hS2 : Blk w2 (W1.heap.size + 1) 42 _ := (h2.blk.alloc _).grown hp.grown (own_ne h2.mate h2.blk (by decide))
            have hsz2 := BX.out.size
            have HBEL2 := Lib.hid (show Below W1.heap.size W1 (w2.setCell ⟨(W1.heap.size + 1), 2, none⟩ (.slice (some ⟨g, 0, none⟩) (i + 1) c)) from ((BX.out.alloc hsz2 _).trans (below_of_grown hp.grown (by simp; omega) (fun k e => (h2.mate.lt k e).1))).setCell h2.far _)
            have HBL2 := Lib.hid hbl2
            have t2 := hS2.cell 2
            have z2 := hS2.frozen 2
            clear hp hp' hbl2 hS2 h2 hb1 hML f2
            go_wp2_with fail
            go_roundw
            case rel => exact ⟨i + 1, by omega, by go_num, _, HBL2.out, HBEL2.out⟩
            case measure => simp [intOf]; omega
        · obtain rfl : i = bs.length := by omega
          have d1 : decide (bs.length < bs.length) = false := by simp
          clear hbd hbx
          go_wp2_with fail
          go_loopw [8, 10] (fun s8 s10 wr => ∃ i : Nat, i ≤ bs.length ∧ s10 = .int .i64 i ∧ ∃ s, runB bs i = .ok s ∧ ∃ vp vm, RBldAt W1.heap.size (W1.heap.size + 1) (.slice ab bs.length cb) s.progs i (s.mate ++ List.replicate (bs.length - i) (-1)) s.op vp vm s8 wr ∧ Below W1.heap.size W1 wr) (fun _ s1 _ => bs.length - (intOf s1).toNat)
          case atStart => exact ⟨0, by omega, rfl, _, rfl, _, _, HBD.out, BX.out⟩
          case round =>
            clear vm i0 HBD BX
            rename World => wy
            obtain ⟨i, hi, rfl, s, hr, vp, vm, hbd, hbx⟩ := hrel
            have HR := Lib.hid hr
            have HBD := Lib.hid hbd
            have BX := Lib.hid hbx
            have i0 : (0 : Int) ≤ (i : Int) := by omega
            have hok := runB_ok HV.out i s hi hr
            have HOK := Lib.hid hok
            by_cases hlt : i < bs.length
            · have d1 : decide (i < bs.length) = true := by simpa using hlt
              have i1 : (i : Int) < (bs.length : Int) := by omega
              have hb : bs[i]? = some bs[i] := List.getElem?_eq_getElem hlt
              generalize bs[i] = b at hb
              have HB := Lib.hid hb
              have hv := HV.out i b hb
              have HSRC : ∀ W, Below W1.heap.size W1 W → BlksAt W bs a cap pl := fun W hW => H.out.under ((HTW.out.bel.trans (B5.out.mono HTW.out.bel.size)).trans (hW.mono (T1.out.bel.size)))
              obtain ⟨hl, sb, so, rfl, hsb, hcc⟩ := H.out.tab i hlt
              have r0 : wy.rangeAt sb (so + i * 11) (blkC b (pl i)) := fun j v hv => by
                have h1 := ((HSRC wy hbx).tab i hlt).2
                obtain ⟨b', o', e, _, hc⟩ := h1
                injection e with e
                injection e with e1 e2
                subst e1 e2
                rw [hc j (by have := (List.getElem?_eq_some_iff.1 hv).1; simpa [blkC] using this), blksC_at hb]
                exact hv
              have HSRC := Lib.hid HSRC
              have SN := store_newB wy (blkC b (pl i)) rfl blkC_one
              have HST := Lib.hid (show RSt W1 (W1.heap.size + 1) (.slice ab bs.length cb) wy.heap.size b (pl i) s.progs i (s.mate ++ List.replicate (bs.length - i) (-1)) s.op vp vm u8 (wy.alloc (.cells (blkC b (pl i)).toArray 37)) from
                ⟨hbd.under ((Below.refl _ _).alloc (Nat.le_refl _) _), Blk.new wy 37 _, hbx.alloc hbx.size _⟩)
              have HML := Lib.hid (mm_len hok hi)
              clear hr hok hbx hl hcc hsb hb hbd
              go_upto_region 19 with (first
                | ((with_reducible refine wpList_load_mid (P := Try.prog) rfl 37 (.tmp 60) rfl sb (so + i * 11) rfl (blkC b (pl i)) _ r0 Try.underlying37 rfl (by kernel_rfl) ?_)))
              refine on_told (fun W => RSt W1 (W1.heap.size + 1) (.slice ab bs.length cb) wy.heap.size b (pl i) s.progs i (s.mate ++ List.replicate (bs.length - i) (-1)) s.op vp vm u8 W) HST.out fun wz hz => ?_
              have HZ := Lib.hid hz
              clear SN r0 HST
              have n0 : wz.cell? ⟨wy.heap.size, 0, none⟩ = some (.int .i64 b.kind) := hz.blk.cell' 0 rfl
              have n1 : wz.cell? ⟨wy.heap.size, 1, none⟩ = some (.int .i64 b.label) := hz.blk.cell' 1 rfl
              have n6 : wz.cell? ⟨wy.heap.size, 10, none⟩ = some (.int .i64 b.n) := hz.blk.cell' 10 rfl
              by_cases h6 : b.kind = 6
              · have k6 : (b.kind == 6) = true := by simpa using h6
                have HPB := Lib.hid (show progsB b i s = s.progs ++ [(b.n, i)] from if_pos h6)
                obtain ⟨lo, co, rfl⟩ := own_form HZ.out.bld.op
                by_cases hop : s.op = []
                · skip
                  have hl0 : s.op.length = 0 := by rw [hop]; rfl
                  have HOP0 := Lib.hid hop
                  have H6 := Lib.hid h6
                  have HX0 := HZ.out
                  rw [hl0] at HX0
                  obtain ⟨ap, cp, e, hrp, hcp⟩ := RowAt.of_own HX0.bld.progs (fun _ _ => rfl)
                  subst e
                  obtain ⟨q, hq, hqb⟩ := prog_len HOK.out hi
                  have hkf := rfind_any s.progs i b.n (.slice ab bs.length cb) vm ap cp wz hrp.tab (by omega)
                  rw [findR_dup] at hkf
                  generalize (findR s.progs b.n).1 = fk at hkf
                  clear hq hqb q
                  have l0 := HX0.bld.blk.cell 0
                  have l1 := HX0.bld.blk.cell 1
                  have l2 := HX0.bld.blk.cell 2
                  rw [hl0]
                  have hcp1 := hcp.1
                  have hcp2 := hcp.2
                  clear hl0 hz hop h6 hrp hcp HZ HBD
                  have HZ := Lib.hid HX0
                  clear HX0
                  by_cases hd : dupN b s = true
                  · rw [show decide (b.n ∈ s.progs.map (·.1)) = true from hd] at hkf
                    have KF := Lib.hid hkf
                    have HE := Lib.hid (show buildB bs = .err i 7 by
                      rw [HBU.out, run_step_err HR.out HB.out]
                      unfold stepB
                      rw [if_neg (fun h => h.2 HOP0.out), if_pos ⟨H6.out, hd⟩])
                    clear hkf hd
                    go_wp2_with fail
                    with_reducible refine KF.out.mono ?_
                    rintro e wx ⟨rfl, b2⟩
                    have HX := Lib.hid (HZ.out.under b2)
                    clear b2 l0 l1 l2 n0 n1 n6
                    have n0 : wx.cell? ⟨wy.heap.size, 0, none⟩ = some (.int .i64 b.kind) := HX.out.blk.cell' 0 rfl
                    have n1 : wx.cell? ⟨wy.heap.size, 1, none⟩ = some (.int .i64 b.label) := HX.out.blk.cell' 1 rfl
                    have n6 : wx.cell? ⟨wy.heap.size, 10, none⟩ = some (.int .i64 b.n) := HX.out.blk.cell' 10 rfl
                    have T3 := Lib.hid (T1.out.below HX.out.bel)
                    have r0 := (T3.out).r.cell 0
                    have r1 := (T3.out).r.cell 1
                    have r2 := (T3.out).r.cell 2
                    have s0 := (T3.out).r.frozen 0
                    have s1 := (T3.out).r.frozen 1
                    have s2 := (T3.out).r.frozen 2
                    have n0 := (T3.out).n.cell 0
                    have n1 := (T3.out).n.cell 1
                    have n2 := (T3.out).n.cell 2
                    go_wp2_with fail
                    refine bodyPost_ret (v := .tuple #[libV 0 0 0 none 0 none 0 none 0, .int .i64 i, .int .i64 7]) (by simp [results, Try.results23, go_sem, libV, r0, r1, r2]) rfl ?_
                    exact LibPost.err HE.out (((T3.out.bel.setCell (by simp) _).setCell (by simp) _).setCell (by simp) _) rfl
                  · have hd' : dupN b s = false := by simpa using hd
                    rw [show decide (b.n ∈ s.progs.map (·.1)) = false from hd'] at hkf
                    have KF := Lib.hid hkf
                    have HD0 := Lib.hid hd
                    clear hkf hd hd'
                    go_wp2_with fail
                    with_reducible refine KF.out.mono ?_
                    rintro e wx ⟨rfl, b2⟩
                    have HX := Lib.hid (HZ.out.under b2)
                    clear b2 l0 l1 l2 n0 n1 n6
                    go_upto_region 25 with (fail)
                    have n0 : wx.cell? ⟨wy.heap.size, 0, none⟩ = some (.int .i64 b.kind) := HX.out.blk.cell' 0 rfl
                    have n1 : wx.cell? ⟨wy.heap.size, 1, none⟩ = some (.int .i64 b.label) := HX.out.blk.cell' 1 rfl
                    have n6 : wx.cell? ⟨wy.heap.size, 10, none⟩ = some (.int .i64 b.n) := HX.out.blk.cell' 10 rfl
                    have l1 : wx.cell? ⟨(W1.heap.size + 1), 1, none⟩ = some (.slice ap s.progs.length cp) := HX.out.bld.blk.cell' 1 rfl
                    have HPR := Lib.hid (HX.out.bld.progs.alloc (.cells #[.int .i64 b.n, .int .i64 i, .int .i64 0] 55))
                    have HB4 := Lib.hid (Blk.new wx 55 #[.int .i64 b.n, .int .i64 i, .int .i64 0])
                    have HL4 := Lib.hid (show W1.heap.size ≤ (wx.alloc (.cells #[.int .i64 b.n, .int .i64 i, .int .i64 0] 55)).heap.size by have := HX.out.bel.size; simp; omega)
                    have HPL := Lib.hid (show s.progs.length ≤ 2001 by obtain ⟨q, h1, h2⟩ := prog_len HOK.out hi; have := HLEN.out; omega)
                    go_wp2_with (first
                      | ((with_reducible refine wpList_prog1 rfl (.tmp 90) (.int .i64 b.n) (.int .i64 i) (.int .i64 0) rfl rfl ?_))
                      | (at_builtin; refine wpList_push rfl (.tmp 86) (.tmp 91) 40 rfl W1.heap.size 55 (.agg #[.int .i64 0, .int .i64 0, .int .i64 0]) 3 24 Try.underlying40 infoProg rfl (by decide) (by decide) (.slice ap s.progs.length cp) s.progs.length (progC s.progs i) rfl HPR.out wx.heap.size [.int .i64 b.n, .int .i64 i, .int .i64 0] rfl HB4.out rfl (by simp [Value.oneCell']) ?c5 HL4.out ?c6))
                    case c5 => have := HPL.out; omega
                    case c6 =>
                      intro g6 c6 w6 hp
                      have h4 := HX.out
                      have hb1 : Below wx.heap.size wx (wx.alloc (.cells #[.int .i64 b.n, .int .i64 i, .int .i64 0] 55)) := (Below.refl _ _).alloc (Nat.le_refl _) _
                      have hpp := (h4.bld.under hb1).pushProg hp
                      have hS1 : Blk w6 (W1.heap.size + 1) 42 _ := (h4.bld.blk.alloc _).grown hp.grown (own_ne h4.bld.progs h4.bld.blk (by decide))
                      have hN1 : Blk w6 wy.heap.size 37 _ := (h4.blk.alloc _).grown hp.grown (own_ne h4.bld.progs h4.blk (by decide))
                      have hNL : wy.heap.size ≠ (W1.heap.size + 1) := fun e => by
                        have h1 := h4.blk
                        rw [e] at h1
                        have h2 := h1.symm.trans h4.bld.blk
                        injection h2 with h2
                        injection h2 with _ h2
                        exact absurd h2 (by decide)
                      have HST := Lib.hid (show RSt W1 (W1.heap.size + 1) (.slice ab bs.length cb) wy.heap.size b (pl i) (s.progs ++ [(b.n, i)]) 0 (s.mate ++ List.replicate (bs.length - i) (-1)) s.op (.slice (some ⟨g6, 0, none⟩) (s.progs.length + 1) c6) vm (.slice lo 0 co) (w6.setCell ⟨(W1.heap.size + 1), 1, none⟩ (.slice (some ⟨g6, 0, none⟩) (s.progs.length + 1) c6)) from
                        ⟨hpp, hN1.far hNL _, ((h4.bel.alloc h4.bel.size (.cells #[.int .i64 b.n, .int .i64 i, .int .i64 0] 55)).trans (below_of_grown hp.grown (by have := h4.bel.size; simp; omega) (fun k e => (h4.bld.progs.lt k e).1))).setCell h4.bld.far _⟩)
                      have t2 := hS1.cell 1
                      have z2 := hS1.frozen 1
                      clear hp h4 hb1 hpp hS1 hN1 hNL l1 n0 n1 n6
                      go_upto_region 26 with (fail)
                      refine on_told (fun W => RSt W1 (W1.heap.size + 1) (.slice ab bs.length cb) wy.heap.size b (pl i) (s.progs ++ [(b.n, i)]) 0 (s.mate ++ List.replicate (bs.length - i) (-1)) s.op (.slice (some ⟨g6, 0, none⟩) (s.progs.length + 1) c6) vm (.slice lo 0 co) W) HST.out fun wx hx9 => ?_
                      have HX := Lib.hid hx9
                      clear hx9
                      clear HST t2 z2
                      generalize (Value.slice (some ⟨g6, 0, none⟩) (s.progs.length + 1) c6) = vq at *
                      obtain ⟨q, hq, hqb⟩ : ∃ q, ((s.progs ++ [(b.n, i)])).length = q + 1 ∧ q ≤ bs.length := prog_len' HOK.out hlt _
                      have HQ := Lib.hid hq
                      obtain ⟨gp, cp, rfl, hgp1, hgp2, hcel, hfro⟩ := HX.out.bld.progAt (k := q) (by omega)
                      have l1 : wx.cell? ⟨(W1.heap.size + 1), 1, none⟩ = some (.slice (some ⟨gp, 0, none⟩) (q + 1) cp) := by
                        have := HX.out.bld.blk.cell' 1 rfl
                        rw [hq] at this
                        exact this
                      have p1 : wx.cell? ⟨gp, q * 3 + 1, none⟩ = some (.int .i64 (i : Nat)) := by
                        have := hcel 1 (by decide)
                        rw [show (i : Nat) = (((s.progs ++ [(b.n, i)])).getD q (0, 0)).2 from ((lastFirst_at hq).trans (lastFirst_snoc _ _)).symm]
                        exact this
                      have p2 : wx.cell? ⟨gp, q * 3 + 2, none⟩ = some (.int .i64 (0 : Nat)) := by
                        have := hcel 2 (by decide)
                        have e2 : ¬ q + 1 < ((s.progs ++ [(b.n, i)])).length := by omega
                        simp only [progC, e2, if_false] at this
                        exact this
                      have z2 : wx.frozen? ⟨gp, q * 3 + 2, none⟩ = false := hfro _
                      have q0 : (0 : Int) ≤ (q : Int) := by omega
                      have q1 : (q : Int) < (q : Int) + 1 := by omega
                      clear hcel hfro hq
                      have n0 : wx.cell? ⟨wy.heap.size, 0, none⟩ = some (.int .i64 b.kind) := HX.out.blk.cell' 0 rfl
                      have n1 : wx.cell? ⟨wy.heap.size, 1, none⟩ = some (.int .i64 b.label) := HX.out.blk.cell' 1 rfl
                      have n6 : wx.cell? ⟨wy.heap.size, 10, none⟩ = some (.int .i64 b.n) := HX.out.blk.cell' 10 rfl
                      by_cases hlab : b.label ≤ 0
                      · have l0 : decide (0 < b.label) = false := decide_eq_false (by omega)
                        have HDL := Lib.hid (show dupL bs b i s = false from decide_eq_false (by omega))
                        have HEND := Lib.hid (show RSt W1 (W1.heap.size + 1) (.slice ab bs.length cb) wy.heap.size b (pl i) (s.progs ++ [(b.n, i)]) (i + 1) (s.mate ++ List.replicate (bs.length - i) (-1)) s.op (.slice (some ⟨gp, 0, none⟩) ((s.progs ++ [(b.n, i)])).length cp) vm (.slice lo 0 co) (wx.setCell ⟨gp, q * 3 + 2, none⟩ (.int .i64 (i + 1 : Nat))) from by
                          have h1 := HX.out.bld.endSet (by intro e; have := HQ.out; rw [e] at this; cases this) rfl (i + 1)
                          rw [HQ.out, Nat.add_sub_cancel] at h1
                          rw [HQ.out]
                          have gr : wx.grownBy (wx.setCell ⟨gp, q * 3 + 2, none⟩ (.int .i64 (i + 1 : Nat))) (some gp) := grown_setCell (p := ⟨gp, q * 3 + 2, none⟩) (grown_refl _ _) (.inl rfl) _
                          exact ⟨h1, HX.out.blk.grown gr (fun e => own_ne HX.out.bld.progs HX.out.blk (by decide) e), HX.out.bel.trans (below_of_grown gr HX.out.bel.size (fun k e => by injection e with e; omega))⟩)
                        go_upto_region 34 with (fail)
                        refine on_told (fun W => RSt W1 (W1.heap.size + 1) (.slice ab bs.length cb) wy.heap.size b (pl i) (s.progs ++ [(b.n, i)]) (i + 1) (s.mate ++ List.replicate (bs.length - i) (-1)) s.op (.slice (some ⟨gp, 0, none⟩) ((s.progs ++ [(b.n, i)])).length cp) vm (.slice lo 0 co) W) HEND.out fun wx hx9 => ?_
                        have HX := Lib.hid hx9
                        clear hx9
                        clear HEND l1 p1 p2 z2 n0 n1 n6
                        have n0 : wx.cell? ⟨wy.heap.size, 0, none⟩ = some (.int .i64 b.kind) := HX.out.blk.cell' 0 rfl
                        have n1 : wx.cell? ⟨wy.heap.size, 1, none⟩ = some (.int .i64 b.label) := HX.out.blk.cell' 1 rfl
                        have n6 : wx.cell? ⟨wy.heap.size, 10, none⟩ = some (.int .i64 b.n) := HX.out.blk.cell' 10 rfl
                        have HSTEP := Lib.hid (show stepB bs b i s = .ok ⟨s.progs ++ [(b.n, i)], s.mate ++ [-1], s.op⟩ by
                          unfold stepB
                          rw [if_neg (fun h => h.2 HOP0.out), if_neg (fun h => absurd h.2 HD0.out), HDL.out, if_neg (by decide), if_neg (by rw [H6.out]; decide), if_neg (by rw [H6.out]; decide), HPB.out])
                        have HR2 := Lib.hid (run_step_ok HR.out HB.out HSTEP.out)
                        have HMS := Lib.hid (mm_succ s.mate hlt)
                        have k4 : (b.kind == 4) = false := by rw [H6.out]; rfl
                        have k5 : (b.kind == 5) = false := by rw [H6.out]; rfl
                        go_wp2_with fail
                        go_roundw
                        case rel => exact ⟨i + 1, by omega, by go_num, _, HR2.out, _, _, by rw [HMS.out]; exact HX.out.bld, HX.out.bel⟩
                        case measure => simp [intOf]; omega
                      · skip
                        have l0 : decide (0 < b.label) = true := decide_eq_true (by omega)
                        have f0 : (0 : Int) ≤ (i : Nat) := by omega
                        have hfi : i ≤ i := Nat.le_refl _
                        go_wp2_with fail
                        go_loopw [15] (fun s15 W => ∃ k : Nat, i ≤ k ∧ k ≤ i ∧ s15 = .int .i64 k ∧ (∀ (j : Nat) (b' : BlkL), i ≤ j → j < k → bs[j]? = some b' → b'.label ≠ b.label) ∧ RSt W1 (W1.heap.size + 1) (.slice ab bs.length cb) wy.heap.size b (pl i) (s.progs ++ [(b.n, i)]) 0 (s.mate ++ List.replicate (bs.length - i) (-1)) s.op (.slice (some ⟨gp, 0, none⟩) ((s.progs ++ [(b.n, i)])).length cp) vm (.slice lo 0 co) W) (fun s15 _ => i - (intOf s15).toNat)
                        case atStart => exact ⟨i, Nat.le_refl _, hfi, rfl, fun j b' h1 h2 => by omega, HX.out⟩
                        case round =>
                          clear l1 p1 p2 z2 n0 n1 n6 HX
                          rename World => wx
                          obtain ⟨k, hk1, hk2, rfl, hall, hx9⟩ := hrel
                          have HX := Lib.hid hx9
                          have HA := Lib.hid hall
                          have k0 : (0 : Int) ≤ (k : Int) := by omega
                          clear hx9 hall
                          by_cases hki : k < i
                          · skip
                            exact absurd hki (by omega)
                          · obtain rfl : i = k := by omega
                            have d2 : decide (i < i) = false := by simp
                            have HDL := Lib.hid (show dupL bs b i s = false by
                              unfold dupL
                              rw [HPB.out]
                              refine decide_eq_false fun h => ?_
                              obtain ⟨j, b', h1, h2, h3, h4⟩ := (labelsOf_mem (by omega) hi).1 h.2
                              exact HA.out j b' (by (rw [lastFirst_snoc] at h1; exact h1)) h2 h3 h4)
                            have hq := HQ.out
                            obtain ⟨gp', cp', e, _, _, hcel, hfro⟩ := HX.out.bld.progAt (k := q) (by omega)
                            injection e with e1 _ e3
                            injection e1 with e1
                            injection e1 with e1
                            subst e1 e3
                            have l1 : wx.cell? ⟨(W1.heap.size + 1), 1, none⟩ = some (.slice (some ⟨gp, 0, none⟩) (q + 1) cp) := by
                              have := HX.out.bld.blk.cell' 1 rfl
                              rw [hq] at this
                              exact this
                            have p1 : wx.cell? ⟨gp, q * 3 + 1, none⟩ = some (.int .i64 (i : Nat)) := by
                              have := hcel 1 (by decide)
                              rw [show (i : Nat) = (((s.progs ++ [(b.n, i)])).getD q (0, 0)).2 from ((lastFirst_at hq).trans (lastFirst_snoc _ _)).symm]
                              exact this
                            have p2 : wx.cell? ⟨gp, q * 3 + 2, none⟩ = some (.int .i64 (0 : Nat)) := by
                              have := hcel 2 (by decide)
                              have e2 : ¬ q + 1 < ((s.progs ++ [(b.n, i)])).length := by omega
                              simp only [progC, e2, if_false] at this
                              exact this
                            have z2 : wx.frozen? ⟨gp, q * 3 + 2, none⟩ = false := hfro _
                            clear hcel hfro hq
                            have n0 : wx.cell? ⟨wy.heap.size, 0, none⟩ = some (.int .i64 b.kind) := HX.out.blk.cell' 0 rfl
                            have n1 : wx.cell? ⟨wy.heap.size, 1, none⟩ = some (.int .i64 b.label) := HX.out.blk.cell' 1 rfl
                            have n6 : wx.cell? ⟨wy.heap.size, 10, none⟩ = some (.int .i64 b.n) := HX.out.blk.cell' 10 rfl
                            have HEND := Lib.hid (show RSt W1 (W1.heap.size + 1) (.slice ab bs.length cb) wy.heap.size b (pl i) (s.progs ++ [(b.n, i)]) (i + 1) (s.mate ++ List.replicate (bs.length - i) (-1)) s.op (.slice (some ⟨gp, 0, none⟩) ((s.progs ++ [(b.n, i)])).length cp) vm (.slice lo 0 co) (wx.setCell ⟨gp, q * 3 + 2, none⟩ (.int .i64 (i + 1 : Nat))) from by
                              have h1 := HX.out.bld.endSet (by intro e; have := HQ.out; rw [e] at this; cases this) rfl (i + 1)
                              rw [HQ.out, Nat.add_sub_cancel] at h1
                              rw [HQ.out]
                              have gr : wx.grownBy (wx.setCell ⟨gp, q * 3 + 2, none⟩ (.int .i64 (i + 1 : Nat))) (some gp) := grown_setCell (p := ⟨gp, q * 3 + 2, none⟩) (grown_refl _ _) (.inl rfl) _
                              exact ⟨h1, HX.out.blk.grown gr (fun e => own_ne HX.out.bld.progs HX.out.blk (by decide) e), HX.out.bel.trans (below_of_grown gr HX.out.bel.size (fun k e => by injection e with e; omega))⟩)
                            go_upto_region 34 with (fail)
                            refine on_told (fun W => RSt W1 (W1.heap.size + 1) (.slice ab bs.length cb) wy.heap.size b (pl i) (s.progs ++ [(b.n, i)]) (i + 1) (s.mate ++ List.replicate (bs.length - i) (-1)) s.op (.slice (some ⟨gp, 0, none⟩) ((s.progs ++ [(b.n, i)])).length cp) vm (.slice lo 0 co) W) HEND.out fun wx hx9 => ?_
                            have HX := Lib.hid hx9
                            clear hx9
                            clear HEND l1 p1 p2 z2 n0 n1 n6
                            have n0 : wx.cell? ⟨wy.heap.size, 0, none⟩ = some (.int .i64 b.kind) := HX.out.blk.cell' 0 rfl
                            have n1 : wx.cell? ⟨wy.heap.size, 1, none⟩ = some (.int .i64 b.label) := HX.out.blk.cell' 1 rfl
                            have n6 : wx.cell? ⟨wy.heap.size, 10, none⟩ = some (.int .i64 b.n) := HX.out.blk.cell' 10 rfl
                            have HSTEP := Lib.hid (show stepB bs b i s = .ok ⟨s.progs ++ [(b.n, i)], s.mate ++ [-1], s.op⟩ by
                              unfold stepB
                              rw [if_neg (fun h => h.2 HOP0.out), if_neg (fun h => absurd h.2 HD0.out), HDL.out, if_neg (by decide), if_neg (by rw [H6.out]; decide), if_neg (by rw [H6.out]; decide), HPB.out])
                            have HR2 := Lib.hid (run_step_ok HR.out HB.out HSTEP.out)
                            have HMS := Lib.hid (mm_succ s.mate hlt)
                            have k4 : (b.kind == 4) = false := by rw [H6.out]; rfl
                            have k5 : (b.kind == 5) = false := by rw [H6.out]; rfl
                            go_wp2_with fail
                            go_roundw
                            case rel => exact ⟨i + 1, by omega, by go_num, _, HR2.out, _, _, by rw [HMS.out]; exact HX.out.bld, HX.out.bel⟩
                            case measure => simp [intOf]; omega
                · have hbd := HZ.out.bld
                  have T2 := Lib.hid (T1.out.below HZ.out.bel)
                  clear HBD
                  have HBD := Lib.hid hbd
                  have HE := Lib.hid (show buildB bs = .err (topOf s.op) 11 by
                    rw [HBU.out, run_step_err HR.out HB.out]
                    unfold stepB
                    rw [if_pos ⟨h6, hop⟩])
                  obtain ⟨m, hm⟩ : ∃ m, s.op.length = m + 1 := by
                    cases h : s.op.length with
                    | zero => exact absurd (List.length_eq_zero_iff.1 h) hop
                    | succ m => exact ⟨m, rfl⟩
                  have htm : s.op[m]? = some (topOf s.op) := by
                    have := topOf_at hop
                    rw [hm] at this
                    simpa using this
                  obtain ⟨go, rfl, hgo1, hgo2, _⟩ := hbd.opAt htm
                  have hmn : m < bs.length := by have := HOK.out.few; omega
                  have HTM := Lib.hid htm
                  have HM := Lib.hid hm
                  rw [hm]
                  generalize topOf s.op = t at *
                  clear hop hm htm hbd hz
                  go_upto_region 21 with (fail)
                  have hS0 : wz.drew.cell? ⟨go, m, none⟩ = some (.int .i64 t) ∧ wz.drew.cell? ⟨(w.heap.size + 1), 0, none⟩ = some (.slice none 0 0) ∧ wz.drew.cell? ⟨(w.heap.size + 1), 1, none⟩ = some (.slice none 0 0) ∧ wz.drew.cell? ⟨(w.heap.size + 1), 2, none⟩ = some (.slice none 0 0) := by
                    obtain ⟨g', e, _, _, hc⟩ := HBD.out.opAt HTM.out
                    injection e with e
                    injection e with e
                    subst e
                    exact ⟨hc, T2.out.n.cell' 0 rfl, T2.out.n.cell' 1 rfl, T2.out.n.cell' 2 rfl⟩
                  have hset : ∀ u v z : Value, ∀ W, W = ((wz.drew.setCell ⟨w.heap.size, 0, none⟩ u).setCell ⟨w.heap.size, 1, none⟩ v).setCell ⟨w.heap.size, 2, none⟩ z → (W.cell? ⟨go, m, none⟩ = some (.int .i64 t) ∧ W.cell? ⟨(w.heap.size + 1), 0, none⟩ = some (.slice none 0 0) ∧ W.cell? ⟨(w.heap.size + 1), 1, none⟩ = some (.slice none 0 0) ∧ W.cell? ⟨(w.heap.size + 1), 2, none⟩ = some (.slice none 0 0)) := fun u v z W e => by
                    subst e
                    exact ⟨cell_set3 (by show go ≠ _; have := T1.out.r.lt; omega) hS0.1, cell_set3 (by show (w.heap.size + 1) ≠ _; omega) hS0.2.1, cell_set3 (by show (w.heap.size + 1) ≠ _; omega) hS0.2.2.1, cell_set3 (by show (w.heap.size + 1) ≠ _; omega) hS0.2.2.2⟩
                  have HSET := Lib.hid hset
                  have r0 := T2.out.r.cell 0
                  have r1 := T2.out.r.cell 1
                  have r2 := T2.out.r.cell 2
                  have s0 := T2.out.r.frozen 0
                  have s1 := T2.out.r.frozen 1
                  have s2 := T2.out.r.frozen 2
                  have m0 : (0 : Int) ≤ (m : Int) := by omega
                  have m1 : (m : Int) < (m : Int) + 1 := by omega
                  clear hset
                  refine region_L (fun W => W.cell? ⟨go, m, none⟩ = some (.int .i64 t) ∧ W.cell? ⟨(w.heap.size + 1), 0, none⟩ = some (.slice none 0 0) ∧ W.cell? ⟨(w.heap.size + 1), 1, none⟩ = some (.slice none 0 0) ∧ W.cell? ⟨(w.heap.size + 1), 2, none⟩ = some (.slice none 0 0)) [] (by kernel_rfl) ?_
                  refine take_L 0 (v := .agg #[.slice none 0 0, .slice none 0 0, .slice none 0 0]) rfl (by kernel_rfl) (by kernel_rfl) (by kernel_rfl) (by kernel_rfl) (fun _ _ _ h => h) rfl (fun W' hW' => by obtain ⟨e0, e1, e2, e3⟩ := hW'; go_simp) hS0 ?_
                  refine take_P 1 (v := .slice (some ⟨go, 0, none⟩) (m + 1) co) rfl (by kernel_rfl) (by kernel_rfl) (by kernel_rfl) (fun _ _ _ h => h) rfl (fun W' => by go_simp) ?_
                  refine take_P 2 (v := .slice (some ⟨go, 0, none⟩) (m + 1) co) rfl (by kernel_rfl) (by kernel_rfl) (by kernel_rfl) (fun _ _ _ h => h) rfl (fun W' => by go_simp) ?_
                  refine take_P 3 (v := .int .i64 (m + 1)) rfl (by kernel_rfl) (by kernel_rfl) (by kernel_rfl) (fun _ _ _ h => h) rfl (fun W' => by go_simp) ?_
                  refine take_P 4 (v := .int .i64 m) rfl (by kernel_rfl) (by kernel_rfl) (by kernel_rfl) (fun _ _ _ h => h) rfl (fun W' => by have e4 : IntKind.i64.wrap (m : Int) = m := IntWalk.i64_in _ (by omega); go_simp) ?_
                  refine take_P 5 (v := .pointer (some ⟨go, m, none⟩)) rfl (by kernel_rfl) (by kernel_rfl) (by kernel_rfl) (fun _ _ _ h => h) rfl (fun W' => by go_simp) ?_
                  refine take_L 6 (v := .int .i64 t) rfl (by kernel_rfl) (by kernel_rfl) (by kernel_rfl) (by kernel_rfl) (fun _ _ _ h => h) rfl (fun W' hW' => by obtain ⟨e0, e1, e2, e3⟩ := hW'; go_simp) hS0 ?_
                  refine one_L 7 (by kernel_rfl) rfl rfl fun K7 hK7 => ?_
                  have HK7 := Lib.hid hK7
                  clear hK7
                  go_simp
                  refine HK7.out _ _ (fun _ _ => HSET.out _ _ _ _ rfl) ?_
                  refine take_P 8 (v := .int .i64 t) rfl (by kernel_rfl) (by kernel_rfl) (by kernel_rfl) (fun _ _ _ h => h) rfl (fun W' => by go_simp) ?_
                  refine take_P 9 (v := .int .i64 11) rfl (by kernel_rfl) (by kernel_rfl) (by kernel_rfl) (fun _ _ _ h => h) rfl (fun W' => by go_simp) ?_
                  refine done_L (by kernel_rfl) ?_ _
                  clear hS0 HK7
                  go_simp
                  go_wp2_with fail
                  refine bodyPost_ret (v := .tuple #[libV 0 0 0 none 0 none 0 none 0, .int .i64 t, .int .i64 11]) (by simp [results, Try.results23, go_sem, libV, r0, r1, r2]) rfl ?_
                  exact LibPost.err HE.out ((((T2.out.bel.setCell (by simp) _).setCell (by simp) _).setCell (by simp) _).drew) rfl
              · have k6 : (b.kind == 6) = false := by simpa using h6
                have HPB := Lib.hid (show progsB b i s = s.progs from if_neg h6)
                go_upto_region 26 with (fail)
                refine on_told (fun W => RSt W1 (W1.heap.size + 1) (.slice ab bs.length cb) wy.heap.size b (pl i) s.progs i (s.mate ++ List.replicate (bs.length - i) (-1)) s.op vp vm u8 W) HZ.out fun wx hx9 => ?_
                have HX := Lib.hid hx9
                clear hx9
                clear HZ n0 n1 n6 hz
                obtain ⟨q, hq, hqb⟩ : ∃ q, (s.progs).length = q + 1 ∧ q ≤ bs.length := prog_len HOK.out hi
                have HQ := Lib.hid hq
                obtain ⟨gp, cp, rfl, hgp1, hgp2, hcel, hfro⟩ := HX.out.bld.progAt (k := q) (by omega)
                have l1 : wx.cell? ⟨(W1.heap.size + 1), 1, none⟩ = some (.slice (some ⟨gp, 0, none⟩) (q + 1) cp) := by
                  have := HX.out.bld.blk.cell' 1 rfl
                  rw [hq] at this
                  exact this
                have p1 : wx.cell? ⟨gp, q * 3 + 1, none⟩ = some (.int .i64 ((lastFirst s.progs) : Nat)) := by
                  have := hcel 1 (by decide)
                  rw [show ((lastFirst s.progs) : Nat) = ((s.progs).getD q (0, 0)).2 from (lastFirst_at hq).symm]
                  exact this
                have p2 : wx.cell? ⟨gp, q * 3 + 2, none⟩ = some (.int .i64 (i : Nat)) := by
                  have := hcel 2 (by decide)
                  have e2 : ¬ q + 1 < (s.progs).length := by omega
                  simp only [progC, e2, if_false] at this
                  exact this
                have z2 : wx.frozen? ⟨gp, q * 3 + 2, none⟩ = false := hfro _
                have q0 : (0 : Int) ≤ (q : Int) := by omega
                have q1 : (q : Int) < (q : Int) + 1 := by omega
                clear hcel hfro hq
                have n0 : wx.cell? ⟨wy.heap.size, 0, none⟩ = some (.int .i64 b.kind) := HX.out.blk.cell' 0 rfl
                have n1 : wx.cell? ⟨wy.heap.size, 1, none⟩ = some (.int .i64 b.label) := HX.out.blk.cell' 1 rfl
                have n6 : wx.cell? ⟨wy.heap.size, 10, none⟩ = some (.int .i64 b.n) := HX.out.blk.cell' 10 rfl
                by_cases hlab : b.label ≤ 0
                · have l0 : decide (0 < b.label) = false := decide_eq_false (by omega)
                  have HDL := Lib.hid (show dupL bs b i s = false from decide_eq_false (by omega))
                  have HEND := Lib.hid (show RSt W1 (W1.heap.size + 1) (.slice ab bs.length cb) wy.heap.size b (pl i) s.progs (i + 1) (s.mate ++ List.replicate (bs.length - i) (-1)) s.op (.slice (some ⟨gp, 0, none⟩) (s.progs).length cp) vm u8 (wx.setCell ⟨gp, q * 3 + 2, none⟩ (.int .i64 (i + 1 : Nat))) from by
                    have h1 := HX.out.bld.endSet (by intro e; have := HQ.out; rw [e] at this; cases this) rfl (i + 1)
                    rw [HQ.out, Nat.add_sub_cancel] at h1
                    rw [HQ.out]
                    have gr : wx.grownBy (wx.setCell ⟨gp, q * 3 + 2, none⟩ (.int .i64 (i + 1 : Nat))) (some gp) := grown_setCell (p := ⟨gp, q * 3 + 2, none⟩) (grown_refl _ _) (.inl rfl) _
                    exact ⟨h1, HX.out.blk.grown gr (fun e => own_ne HX.out.bld.progs HX.out.blk (by decide) e), HX.out.bel.trans (below_of_grown gr HX.out.bel.size (fun k e => by injection e with e; omega))⟩)
                  go_upto_region 34 with (fail)
                  refine on_told (fun W => RSt W1 (W1.heap.size + 1) (.slice ab bs.length cb) wy.heap.size b (pl i) s.progs (i + 1) (s.mate ++ List.replicate (bs.length - i) (-1)) s.op (.slice (some ⟨gp, 0, none⟩) (s.progs).length cp) vm u8 W) HEND.out fun wx hx9 => ?_
                  have HX := Lib.hid hx9
                  clear hx9
                  clear HEND l1 p1 p2 z2 n0 n1 n6
                  have n0 : wx.cell? ⟨wy.heap.size, 0, none⟩ = some (.int .i64 b.kind) := HX.out.blk.cell' 0 rfl
                  have n1 : wx.cell? ⟨wy.heap.size, 1, none⟩ = some (.int .i64 b.label) := HX.out.blk.cell' 1 rfl
                  have n6 : wx.cell? ⟨wy.heap.size, 10, none⟩ = some (.int .i64 b.n) := HX.out.blk.cell' 10 rfl
                  by_cases h4 : b.kind = 4
                  · have k4 : (b.kind == 4) = true := by simpa using h4
                    have HERR := Lib.hid (fun hs : sameN bs b s = true => show stepB bs b i s = .err i 11 by
                      unfold stepB
                      rw [if_neg (by omega), if_neg (by omega), HDL.out, if_neg (by decide), if_pos h4, if_pos hs])
                    have HOKS := Lib.hid (fun hs : sameN bs b s = false => show stepB bs b i s = .ok ⟨s.progs, s.mate ++ [-1], s.op ++ [i]⟩ by
                      unfold stepB
                      rw [if_neg (by omega), if_neg (by omega), HDL.out, if_neg (by decide), if_pos h4, if_neg (by rw [hs]; decide), HPB.out])
                    have HMS := Lib.hid (mm_succ s.mate hlt)
                    clear h4 h6 hlab
                    obtain ⟨lo, co, rfl⟩ := own_form HX.out.bld.op
                    go_wp2_with fail
                    go_loopw [16] (fun s16 W => ∃ j : Nat, j ≤ s.op.length ∧ s16 = .int .i64 j ∧ (∀ (q t : Nat), q < j → s.op[q]? = some t → nOf bs t ≠ b.n) ∧ RSt W1 (W1.heap.size + 1) (.slice ab bs.length cb) wy.heap.size b (pl i) s.progs (i + 1) (s.mate ++ List.replicate (bs.length - i) (-1)) s.op (.slice (some ⟨gp, 0, none⟩) (s.progs).length cp) vm (.slice lo s.op.length co) W) (fun s16 _ => s.op.length - (intOf s16).toNat)
                    case atStart => exact ⟨0, by omega, rfl, fun q t h => by omega, HX.out⟩
                    case round =>
                      clear n0 n1 n6 HX
                      rename World => wx
                      obtain ⟨j, hj, rfl, hall, hx9⟩ := hrel
                      have HX := Lib.hid hx9
                      have HA := Lib.hid hall
                      have j0 : (0 : Int) ≤ (j : Int) := by omega
                      have hfew := HOK.out.few
                      clear hx9 hall
                      by_cases hjl : j < s.op.length
                      · have d3 : decide (j < s.op.length) = true := by simpa using hjl
                        have j1 : (j : Int) < (s.op.length : Int) := by omega
                        have ht : s.op[j]? = some s.op[j] := List.getElem?_eq_getElem hjl
                        generalize s.op[j] = t at ht
                        have hti := HOK.out.op t (List.mem_of_getElem? ht)
                        obtain ⟨go, rfl, hgo1, hgo2, c0⟩ := HX.out.bld.opAt ht
                        have t0 : (0 : Int) ≤ (t : Int) := by omega
                        have t1 : (t : Int) < (bs.length : Int) := by omega
                        have HT := Lib.hid ht
                        have HTL := Lib.hid (show t < bs.length by omega)
                        clear ht
                        by_cases he : nOf bs t = b.n
                        · have he' : (nOf bs t == b.n) = true := by simpa using he
                          have HSN := Lib.hid (show sameN bs b s = true from List.any_eq_true.2 ⟨t, List.mem_of_getElem? HT.out, by simpa using he⟩)
                          clear he
                          have n0 : wx.cell? ⟨wy.heap.size, 0, none⟩ = some (.int .i64 b.kind) := HX.out.blk.cell' 0 rfl
                          have n1 : wx.cell? ⟨wy.heap.size, 1, none⟩ = some (.int .i64 b.label) := HX.out.blk.cell' 1 rfl
                          have n6 : wx.cell? ⟨wy.heap.size, 10, none⟩ = some (.int .i64 b.n) := HX.out.blk.cell' 10 rfl
                          go_wp2_with fail
                          refine region_L (fun W => RSt W1 (W1.heap.size + 1) (.slice ab bs.length cb) wy.heap.size b (pl i) s.progs (i + 1) (s.mate ++ List.replicate (bs.length - i) (-1)) s.op (.slice (some ⟨gp, 0, none⟩) (s.progs).length cp) vm (.slice (some ⟨go, 0, none⟩) s.op.length co) W) [] (by kernel_rfl) ?_
                          have hS0 := HX.out.under (Below.refl _ _).drew
                          refine take_P 0 (v := .slice (some ⟨sb, so, none⟩) bs.length cap) rfl (by kernel_rfl) (by kernel_rfl) (by kernel_rfl) (fun _ _ _ h => h) rfl (fun W' => by go_simp) ?_
                          refine take_P 1 (v := .slice (some ⟨go, 0, none⟩) s.op.length co) rfl (by kernel_rfl) (by kernel_rfl) (by kernel_rfl) (fun _ _ _ h => h) rfl (fun W' => by go_simp) ?_
                          refine take_P 2 (v := .int .i64 j) rfl (by kernel_rfl) (by kernel_rfl) (by kernel_rfl) (fun _ _ _ h => h) rfl (fun W' => by go_simp) ?_
                          refine take_P 3 (v := .pointer (some ⟨go, j, none⟩)) rfl (by kernel_rfl) (by kernel_rfl) (by kernel_rfl) (fun _ _ _ h => h) rfl (fun W' => by go_simp) ?_
                          refine take_L 4 (v := .int .i64 t) rfl (by kernel_rfl) (by kernel_rfl) (by kernel_rfl) (by kernel_rfl) (fun _ _ _ h => h) rfl (fun W' hW' => by have e4 : W'.cell? ⟨go, j, none⟩ = some (.int .i64 t) := (by obtain ⟨g', e, _, _, hc⟩ := hW'.bld.opAt HT.out; injection e with e; injection e with e; subst e; exact hc); clear hW'; go_simp) hS0 ?_
                          refine take_P 5 (v := .pointer (some ⟨sb, so + t * 11, none⟩)) rfl (by kernel_rfl) (by kernel_rfl) (by kernel_rfl) (fun _ _ _ h => h) rfl (fun W' => by go_simp) ?_
                          refine take_P 6 (v := .pointer (some ⟨sb, so + t * 11 + 10, none⟩)) rfl (by kernel_rfl) (by kernel_rfl) (by kernel_rfl) (fun _ _ _ h => h) rfl (fun W' => by go_simp) ?_
                          refine take_L 7 (v := .int .i64 (nOf bs t)) rfl (by kernel_rfl) (by kernel_rfl) (by kernel_rfl) (by kernel_rfl) (fun _ _ _ h => h) rfl (fun W' hW' => by have e4 := blk_n (HSRC.out W' hW'.bel) HTL.out; clear hW'; go_simp) hS0 ?_
                          refine take_P 8 (v := .pointer (some ⟨wy.heap.size, 10, none⟩)) rfl (by kernel_rfl) (by kernel_rfl) (by kernel_rfl) (fun _ _ _ h => h) rfl (fun W' => by go_simp) ?_
                          refine take_L 9 (v := .int .i64 b.n) rfl (by kernel_rfl) (by kernel_rfl) (by kernel_rfl) (by kernel_rfl) (fun _ _ _ h => h) rfl (fun W' hW' => by have e4 : W'.cell? ⟨wy.heap.size, 10, none⟩ = some (.int .i64 b.n) := hW'.blk.cell' 10 rfl; clear hW'; go_simp) hS0 ?_
                          refine take_P 10 (v := .bool true) rfl (by kernel_rfl) (by kernel_rfl) (by kernel_rfl) (fun _ _ _ h => h) rfl (fun W' => by go_simp) ?_
                          refine done_L (by kernel_rfl) ?_ _
                          clear n0 n1 n6 c0
                          refine on_told (fun W => RSt W1 (W1.heap.size + 1) (.slice ab bs.length cb) wy.heap.size b (pl i) s.progs (i + 1) (s.mate ++ List.replicate (bs.length - i) (-1)) s.op (.slice (some ⟨gp, 0, none⟩) (s.progs).length cp) vm (.slice (some ⟨go, 0, none⟩) s.op.length co) W) hS0 fun wx hx9 => ?_
                          have HX := Lib.hid hx9
                          clear hx9
                          clear hS0
                          go_simp
                          have HE := Lib.hid (show buildB bs = .err i 11 by rw [HBU.out, run_step_err HR.out HB.out (HERR.out HSN.out)])
                          have T3 := Lib.hid (T1.out.below HX.out.bel)
                          have r0 := (T3.out).r.cell 0
                          have r1 := (T3.out).r.cell 1
                          have r2 := (T3.out).r.cell 2
                          have s0 := (T3.out).r.frozen 0
                          have s1 := (T3.out).r.frozen 1
                          have s2 := (T3.out).r.frozen 2
                          have n0 := (T3.out).n.cell 0
                          have n1 := (T3.out).n.cell 1
                          have n2 := (T3.out).n.cell 2
                          go_wp2_with fail
                          refine bodyPost_ret (v := .tuple #[libV 0 0 0 none 0 none 0 none 0, .int .i64 i, .int .i64 11]) (by simp [results, Try.results23, go_sem, libV, r0, r1, r2]) rfl ?_
                          exact LibPost.err HE.out (((T3.out.bel.setCell (by simp) _).setCell (by simp) _).setCell (by simp) _) rfl
                        · have he' : (nOf bs t == b.n) = false := by simpa using he
                          have HEN := Lib.hid he
                          clear he
                          have n0 : wx.cell? ⟨wy.heap.size, 0, none⟩ = some (.int .i64 b.kind) := HX.out.blk.cell' 0 rfl
                          have n1 : wx.cell? ⟨wy.heap.size, 1, none⟩ = some (.int .i64 b.label) := HX.out.blk.cell' 1 rfl
                          have n6 : wx.cell? ⟨wy.heap.size, 10, none⟩ = some (.int .i64 b.n) := HX.out.blk.cell' 10 rfl
                          go_wp2_with fail
                          refine region_L (fun W => RSt W1 (W1.heap.size + 1) (.slice ab bs.length cb) wy.heap.size b (pl i) s.progs (i + 1) (s.mate ++ List.replicate (bs.length - i) (-1)) s.op (.slice (some ⟨gp, 0, none⟩) (s.progs).length cp) vm (.slice (some ⟨go, 0, none⟩) s.op.length co) W) [] (by kernel_rfl) ?_
                          have hS0 := HX.out.under (Below.refl _ _).drew
                          refine take_P 0 (v := .slice (some ⟨sb, so, none⟩) bs.length cap) rfl (by kernel_rfl) (by kernel_rfl) (by kernel_rfl) (fun _ _ _ h => h) rfl (fun W' => by go_simp) ?_
                          refine take_P 1 (v := .slice (some ⟨go, 0, none⟩) s.op.length co) rfl (by kernel_rfl) (by kernel_rfl) (by kernel_rfl) (fun _ _ _ h => h) rfl (fun W' => by go_simp) ?_
                          refine take_P 2 (v := .int .i64 j) rfl (by kernel_rfl) (by kernel_rfl) (by kernel_rfl) (fun _ _ _ h => h) rfl (fun W' => by go_simp) ?_
                          refine take_P 3 (v := .pointer (some ⟨go, j, none⟩)) rfl (by kernel_rfl) (by kernel_rfl) (by kernel_rfl) (fun _ _ _ h => h) rfl (fun W' => by go_simp) ?_
                          refine take_L 4 (v := .int .i64 t) rfl (by kernel_rfl) (by kernel_rfl) (by kernel_rfl) (by kernel_rfl) (fun _ _ _ h => h) rfl (fun W' hW' => by have e4 : W'.cell? ⟨go, j, none⟩ = some (.int .i64 t) := (by obtain ⟨g', e, _, _, hc⟩ := hW'.bld.opAt HT.out; injection e with e; injection e with e; subst e; exact hc); clear hW'; go_simp) hS0 ?_
                          refine take_P 5 (v := .pointer (some ⟨sb, so + t * 11, none⟩)) rfl (by kernel_rfl) (by kernel_rfl) (by kernel_rfl) (fun _ _ _ h => h) rfl (fun W' => by go_simp) ?_
                          refine take_P 6 (v := .pointer (some ⟨sb, so + t * 11 + 10, none⟩)) rfl (by kernel_rfl) (by kernel_rfl) (by kernel_rfl) (fun _ _ _ h => h) rfl (fun W' => by go_simp) ?_
                          refine take_L 7 (v := .int .i64 (nOf bs t)) rfl (by kernel_rfl) (by kernel_rfl) (by kernel_rfl) (by kernel_rfl) (fun _ _ _ h => h) rfl (fun W' hW' => by have e4 := blk_n (HSRC.out W' hW'.bel) HTL.out; clear hW'; go_simp) hS0 ?_
                          refine take_P 8 (v := .pointer (some ⟨wy.heap.size, 10, none⟩)) rfl (by kernel_rfl) (by kernel_rfl) (by kernel_rfl) (fun _ _ _ h => h) rfl (fun W' => by go_simp) ?_
                          refine take_L 9 (v := .int .i64 b.n) rfl (by kernel_rfl) (by kernel_rfl) (by kernel_rfl) (by kernel_rfl) (fun _ _ _ h => h) rfl (fun W' hW' => by have e4 : W'.cell? ⟨wy.heap.size, 10, none⟩ = some (.int .i64 b.n) := hW'.blk.cell' 10 rfl; clear hW'; go_simp) hS0 ?_
                          refine take_P 10 (v := .bool false) rfl (by kernel_rfl) (by kernel_rfl) (by kernel_rfl) (fun _ _ _ h => h) rfl (fun W' => by go_simp) ?_
                          refine done_L (by kernel_rfl) ?_ _
                          clear n0 n1 n6 c0
                          refine on_told (fun W => RSt W1 (W1.heap.size + 1) (.slice ab bs.length cb) wy.heap.size b (pl i) s.progs (i + 1) (s.mate ++ List.replicate (bs.length - i) (-1)) s.op (.slice (some ⟨gp, 0, none⟩) (s.progs).length cp) vm (.slice (some ⟨go, 0, none⟩) s.op.length co) W) hS0 fun wx hx9 => ?_
                          have HX := Lib.hid hx9
                          clear hx9
                          clear hS0
                          go_simp
                          go_wp2_with fail
                          go_roundw
                          case rel => exact ⟨j + 1, by omega, by go_num, fun q t' hq ht' => by
                            by_cases e : q = j
                            · subst e
                              rw [HT.out] at ht'
                              injection ht' with ht'
                              subst ht'
                              exact HEN.out
                            · exact HA.out q t' (by omega) ht', HX.out⟩
                          case measure => simp [intOf]; omega
                      · obtain rfl : s.op.length = j := by omega
                        have d3 : decide (s.op.length < s.op.length) = false := by simp
                        have HSN := Lib.hid (show sameN bs b s = false from List.any_eq_false.2 fun t ht => by
                          obtain ⟨q, hq⟩ := List.mem_iff_getElem?.1 ht
                          simpa using HA.out q t (List.getElem?_eq_some_iff.1 hq).1 hq)
                        have HR2 := Lib.hid (run_step_ok HR.out HB.out (HOKS.out HSN.out))
                        have HOP := Lib.hid (HX.out.bld.op.alloc (.cells #[.int .i64 i] 3))
                        have HB4 := Lib.hid (Blk.new wx 3 #[.int .i64 i])
                        have HL4 := Lib.hid (show W1.heap.size ≤ (wx.alloc (.cells #[.int .i64 i] 3)).heap.size by have := HX.out.bel.size; simp; omega)
                        go_wp2_with (at_builtin; refine wpList_push rfl (.tmp 152) (.tmp 154) 23 rfl W1.heap.size 3 (.int .i64 0) 1 8 Try.underlying23 infoInt rfl (by decide) (by decide) (.slice lo s.op.length co) s.op.length (intC (s.op.map (fun n : Nat => (n : Int)))) rfl HOP.out wx.heap.size [.int .i64 i] rfl HB4.out rfl (by simp [Value.oneCell']) ?c3 HL4.out ?c4)
                        case c3 => omega
                        case c4 =>
                          intro g6 c6 w6 hp
                          have h4 := HX.out
                          have hb1 : Below wx.heap.size wx (wx.alloc (.cells #[.int .i64 i] 3)) := (Below.refl _ _).alloc (Nat.le_refl _) _
                          have HBL6 := Lib.hid ((h4.bld.under hb1).pushOp hp)
                          have HBEL6 := Lib.hid ((h4.bel.alloc h4.bel.size (.cells #[.int .i64 i] 3)).trans (below_of_grown hp.grown (by have := h4.bel.size; simp; omega) (fun k e => (h4.bld.op.lt k e).1)))
                          clear hp h4 hb1
                          go_wp2_with fail
                          go_roundw
                          case rel => exact ⟨i + 1, by omega, by go_num, _, HR2.out, _, _, by rw [HMS.out]; exact HBL6.out, HBEL6.out⟩
                          case measure => simp [intOf]; omega
                  · have k4 : (b.kind == 4) = false := by simpa using h4
                    by_cases h5 : b.kind = 5
                    · have k5 : (b.kind == 5) = true := by simpa using h5
                      have HMS := Lib.hid (mm_succ s.mate hlt)
                      obtain ⟨lo, co, rfl⟩ := own_form HX.out.bld.op
                      by_cases hop : s.op = []
                      · have hl0 : s.op.length = 0 := by rw [hop]; rfl
                        have HE := Lib.hid (show buildB bs = .err i 11 by
                          rw [HBU.out, run_step_err HR.out HB.out]
                          unfold stepB
                          rw [if_neg (by omega), if_neg (by omega), HDL.out, if_neg (by decide), if_neg h4, if_pos h5, if_pos (.inl hop)])
                        have HX0 := HX.out
                        rw [hl0] at HX0
                        have HX := Lib.hid HX0
                        rw [hl0]
                        clear HX0 hop hl0 h4 h5 h6 hlab
                        let S0 : World → Prop := fun W => RSt W1 (W1.heap.size + 1) (.slice ab bs.length cb) wy.heap.size b (pl i) s.progs (i + 1) (s.mate ++ List.replicate (bs.length - i) (-1)) s.op (.slice (some ⟨gp, 0, none⟩) (s.progs).length cp) vm (.slice lo 0 co) W
                        have hs : S0 wx.drew := HX.out.under (Below.refl _ _).drew
                        have inst : Nonempty (At S0) := ⟨⟨_, hs⟩⟩
                        have hSTA : ∀ p : At S0, RSt W1 (W1.heap.size + 1) (.slice ab bs.length cb) wy.heap.size b (pl i) s.progs (i + 1) (s.mate ++ List.replicate (bs.length - i) (-1)) s.op (.slice (some ⟨gp, 0, none⟩) (s.progs).length cp) vm (.slice lo 0 co) p.w := fun p => p.ok
                        have HSTA := Lib.hid hSTA
                        clear hSTA
                        go_wp2_with fail
                        clear_value S0
                        refine wp_region_at S0 (by kernel_rfl) (by kernel_rfl) hs ?_
                        repeat go_big_quiet_step (fail)
                        refine wpQuiet_nil ?_
                        rintro _ ⟨p, rfl⟩
                        have HX5 := Lib.hid (HSTA.out p)
                        clear HSTA HX n0 n1 n6
                        generalize p.w = wx at *
                        have HX := HX5
                        have T3 := Lib.hid (T1.out.below HX.out.bel)
                        have r0 := (T3.out).r.cell 0
                        have r1 := (T3.out).r.cell 1
                        have r2 := (T3.out).r.cell 2
                        have s0 := (T3.out).r.frozen 0
                        have s1 := (T3.out).r.frozen 1
                        have s2 := (T3.out).r.frozen 2
                        have n0 := (T3.out).n.cell 0
                        have n1 := (T3.out).n.cell 1
                        have n2 := (T3.out).n.cell 2
                        go_wp2_with fail
                        refine bodyPost_ret (v := .tuple #[libV 0 0 0 none 0 none 0 none 0, .int .i64 i, .int .i64 11]) (by simp [results, Try.results23, go_sem, libV, r0, r1, r2]) rfl ?_
                        exact LibPost.err HE.out (((T3.out.bel.setCell (by simp) _).setCell (by simp) _).setCell (by simp) _) rfl
                      · have hbd := HX.out.bld
                        obtain ⟨m, hm⟩ : ∃ m, s.op.length = m + 1 := by
                          cases h : s.op.length with
                          | zero => exact absurd (List.length_eq_zero_iff.1 h) hop
                          | succ m => exact ⟨m, rfl⟩
                        have htm : s.op[m]? = some (topOf s.op) := by
                          have := topOf_at hop
                          rw [hm] at this
                          simpa using this
                        obtain ⟨go, rfl, hgo1, hgo2, _⟩ := hbd.opAt htm
                        have hmn : m < bs.length := by have := HOK.out.few; omega
                        have HTM := Lib.hid htm
                        have HM := Lib.hid hm
                        have hml : m < i := by have := HOK.out.few; omega
                        have htl : topOf s.op < i := HOK.out.op _ (topOf_mem hop)
                        have HX0 := HX.out
                        rw [hm] at HX0
                        have HX := Lib.hid HX0
                        rw [hm]
                        generalize htt : topOf s.op = t at *
                        have HTT := Lib.hid htt
                        have hco := HX0.bld.opCap rfl
                        rw [hm] at hco
                        have HERR := Lib.hid (fun hs : nOf bs t ≠ b.n => show stepB bs b i s = .err i 11 by
                          unfold stepB
                          rw [if_neg (by omega), if_neg (by omega), HDL.out, if_neg (by decide), if_neg h4, if_pos h5, if_pos (.inr (by rw [HTT.out]; exact hs))])
                        have HOKS := Lib.hid (fun hs : nOf bs t = b.n => show stepB bs b i s = .ok ⟨s.progs, ((s.mate ++ [-1]).set t i).set i t, s.op.dropLast⟩ by
                          unfold stepB
                          rw [if_neg (by omega), if_neg (by omega), HDL.out, if_neg (by decide), if_neg h4, if_pos h5, if_neg (by rw [HTT.out]; exact fun h => h.elim hop (fun h => h hs)), HPB.out, HTT.out])
                        have m0 : (0 : Int) ≤ (m : Int) := by omega
                        have m1 : (m : Int) < (m : Int) + 1 := by omega
                        have m2 : ((m : Int) + 1 == 0) = false := by simp; omega
                        have t0 : (0 : Int) ≤ (t : Int) := by omega
                        have t1 : (t : Int) < (bs.length : Int) := by omega
                        clear hm htm hbd HX0 hop htt h4 h5 h6 hlab
                        by_cases he : nOf bs t = b.n
                        · have he' : (nOf bs t != b.n) = false := by simpa using he
                          have HEN := Lib.hid he
                          clear he
                          let S0 : World → Prop := fun W => RSt W1 (W1.heap.size + 1) (.slice ab bs.length cb) wy.heap.size b (pl i) s.progs (i + 1) (s.mate ++ List.replicate (bs.length - i) (-1)) s.op (.slice (some ⟨gp, 0, none⟩) (s.progs).length cp) vm (.slice (some ⟨go, 0, none⟩) (m + 1) co) W
                          have hs : S0 wx.drew := HX.out.under (Below.refl _ _).drew
                          have inst : Nonempty (At S0) := ⟨⟨_, hs⟩⟩
                          have hSTA : ∀ p : At S0, RSt W1 (W1.heap.size + 1) (.slice ab bs.length cb) wy.heap.size b (pl i) s.progs (i + 1) (s.mate ++ List.replicate (bs.length - i) (-1)) s.op (.slice (some ⟨gp, 0, none⟩) (s.progs).length cp) vm (.slice (some ⟨go, 0, none⟩) (m + 1) co) p.w := fun p => p.ok
                          have HSTA := Lib.hid hSTA
                          clear hSTA
                          go_wp2_with fail
                          have y1 : ∀ p : At S0, p.w.cell? ⟨go, m, none⟩ = some (.int .i64 t) := fun p => by
                            obtain ⟨g', e, _, _, hc⟩ := (HSTA.out p).bld.opAt HTM.out
                            injection e with e
                            injection e with e
                            subst e
                            exact hc
                          have y2 : ∀ p : At S0, p.w.cell? ⟨sb, so + t * 11 + 10, none⟩ = some (.int .i64 (nOf bs t)) := fun p => blk_n (HSRC.out p.w (HSTA.out p).bel) (by omega)
                          have y3 : ∀ p : At S0, p.w.cell? ⟨wy.heap.size, 10, none⟩ = some (.int .i64 b.n) := fun p => (HSTA.out p).blk.cell' 10 rfl
                          clear_value S0
                          refine wp_region_at S0 (by kernel_rfl) (by kernel_rfl) hs ?_
                          repeat go_big_quiet_step (fail)
                          refine wpQuiet_nil ?_
                          rintro _ ⟨p, rfl⟩
                          have HX5 := Lib.hid (HSTA.out p)
                          clear HSTA HX n0 n1 n6
                          clear y1 y2 y3
                          generalize p.w = wx at *
                          have HX := HX5
                          have hML := HML.out
                          have c2 : wx.cell? ⟨go, m, none⟩ = some (.int .i64 t) := by
                            obtain ⟨g', e, _, _, hc⟩ := HX.out.bld.opAt HTM.out
                            injection e with e
                            injection e with e
                            subst e
                            exact hc
                          obtain ⟨gm, cm, rfl, hgm1, hgm2, hct, hzt⟩ := HX.out.bld.mateAt (k := t) (by omega)
                          obtain ⟨gm', cm', e, _, _, hci, hzi⟩ := HX.out.bld.mateAt (k := i) (by omega)
                          injection e with e1 _ e3
                          injection e1 with e1
                          injection e1 with e1
                          subst e1 e3
                          have hLg : (W1.heap.size + 1) ≠ gm := fun e => own_ne HX.out.bld.mate HX.out.bld.blk (by decide) (by rw [e]; rfl)
                          have l2 : wx.cell? ⟨(W1.heap.size + 1), 2, none⟩ = some (.slice (some ⟨gm, 0, none⟩) bs.length cm) := by
                            have := HX.out.bld.blk.cell' 2 rfl
                            rw [hML] at this
                            exact this
                          have hbld := HX.out.bld.under (Below.refl _ _).drew
                          have hb1 := hbld.setMate rfl (k := t) (by omega) (i : Int)
                          have hb2 := hb1.setMate (g := gm) (c := cm) (by rw [List.length_set]) (k := i) (by rw [List.length_set]; omega) (t : Int)
                          have hb3 := hb2.popOp (go := go) (co := co) (by rw [HM.out])
                          rw [HM.out, Nat.add_sub_cancel] at hb3
                          have HB3 := Lib.hid hb3
                          have HBEL3 := Lib.hid ((HX.out.bel.drew.setCell (show W1.heap.size ≤ gm from hgm1) (.int .i64 i) : Below W1.heap.size W1 (wx.drew.setCell ⟨gm, t, none⟩ (.int .i64 i))).setCell (p := ⟨gm, i, none⟩) hgm1 (.int .i64 t))
                          have HR2 := Lib.hid (run_step_ok HR.out HB.out (HOKS.out HEN.out))
                          have HMT := Lib.hid (mm_set HOK.out.mate hlt htl (i : Int) (t : Int))
                          have hti : ¬ t = i := by omega
                          have hit : ¬ i = t := by omega
                          have hmco : (m : Int) ≤ (co : Int) := by omega
                          clear hbld hb1 hb2 hb3
                          go_wp2_with fail
                          refine region_L (fun W => W.cell? ⟨(W1.heap.size + 1), 2, none⟩ = some (.slice (some ⟨gm, 0, none⟩) bs.length cm)) [] (by kernel_rfl) ?_
                          have hS0 : wx.drew.cell? ⟨(W1.heap.size + 1), 2, none⟩ = some (.slice (some ⟨gm, 0, none⟩) bs.length cm) := l2
                          refine take_P 0 (v := .pointer (some ⟨(W1.heap.size + 1), 2, none⟩)) rfl (by kernel_rfl) (by kernel_rfl) (by kernel_rfl) (fun _ _ _ h => h) rfl (fun W' => by go_simp) ?_
                          refine take_L 1 (v := .slice (some ⟨gm, 0, none⟩) bs.length cm) rfl (by kernel_rfl) (by kernel_rfl) (by kernel_rfl) (by kernel_rfl) (fun _ _ _ h => h) rfl (fun W' hW' => by have e4 := hW'; clear hW'; go_simp) hS0 ?_
                          refine take_P 2 (v := .int .i64 t) rfl (by kernel_rfl) (by kernel_rfl) (by kernel_rfl) (fun _ _ _ h => h) rfl (fun W' => by go_simp) ?_
                          refine take_P 3 (v := .pointer (some ⟨(W1.heap.size + 1), 2, none⟩)) rfl (by kernel_rfl) (by kernel_rfl) (by kernel_rfl) (fun _ _ _ h => h) rfl (fun W' => by go_simp) ?_
                          refine take_L 4 (v := .slice (some ⟨gm, 0, none⟩) bs.length cm) rfl (by kernel_rfl) (by kernel_rfl) (by kernel_rfl) (by kernel_rfl) (fun _ _ _ h => h) rfl (fun W' hW' => by have e4 := hW'; clear hW'; go_simp) hS0 ?_
                          refine take_P 5 (v := .int .i64 i) rfl (by kernel_rfl) (by kernel_rfl) (by kernel_rfl) (fun _ _ _ h => h) rfl (fun W' => by go_simp) ?_
                          refine take_P 6 (v := .int .i64 i) rfl (by kernel_rfl) (by kernel_rfl) (by kernel_rfl) (fun _ _ _ h => h) rfl (fun W' => by go_simp) ?_
                          refine take_P 7 (v := .int .i64 t) rfl (by kernel_rfl) (by kernel_rfl) (by kernel_rfl) (fun _ _ _ h => h) rfl (fun W' => by go_simp) ?_
                          refine take_P 8 (v := .pointer (some ⟨gm, t, none⟩)) rfl (by kernel_rfl) (by kernel_rfl) (by kernel_rfl) (fun _ _ _ h => h) rfl (fun W' => by go_simp) ?_
                          have ct : wx.drew.cell? ⟨gm, t, none⟩ = some _ := hct
                          have zt : wx.drew.frozen? ⟨gm, t, none⟩ = false := hzt
                          refine one_L 9 (by kernel_rfl) rfl rfl fun K9 hK9 => ?_
                          have HK9 := Lib.hid hK9
                          clear hK9
                          go_simp
                          have hk9 : ∀ u : Value, (wx.drew.setCell ⟨gm, t, none⟩ u).cell? ⟨(W1.heap.size + 1), 2, none⟩ = some (.slice (some ⟨gm, 0, none⟩) bs.length cm) := fun u => by
                            rw [World.cell?_setCell_other _ _ _ _ (fun e => hLg (by injection e with e; exact e.symm))]; exact l2
                          refine HK9.out _ _ (fun _ _ => hk9 _) ?_
                          refine take_P 10 (v := .pointer (some ⟨gm, i, none⟩)) rfl (by kernel_rfl) (by kernel_rfl) (by kernel_rfl) (fun _ _ _ h => h) rfl (fun W' => by go_simp) ?_
                          have ci : (wx.drew.setCell ⟨gm, t, none⟩ (.int .i64 i)).cell? ⟨gm, i, none⟩ = some (.int .i64 ((s.mate ++ List.replicate (bs.length - i) (-1)).getD i 0)) := by
                            rw [World.cell?_setCell_other _ _ _ _ (fun e => hti (by injection e))]; exact hci
                          have zi : wx.drew.frozen? ⟨gm, i, none⟩ = false := hzi
                          refine one_L 11 (by kernel_rfl) rfl rfl fun K11 hK11 => ?_
                          have HK11 := Lib.hid hK11
                          clear hK11
                          go_simp
                          have hk11 : ∀ u v : Value, ((wx.drew.setCell ⟨gm, t, none⟩ u).setCell ⟨gm, i, none⟩ v).cell? ⟨(W1.heap.size + 1), 2, none⟩ = some (.slice (some ⟨gm, 0, none⟩) bs.length cm) := fun u v => by
                            rw [World.cell?_setCell_other _ _ _ _ (fun e => hLg (by injection e with e; exact e.symm))]; exact hk9 u
                          refine HK11.out _ _ (fun _ _ => hk11 _ _) ?_
                          refine done_L (by kernel_rfl) ?_ _
                          clear hS0 HK9 HK11 ct zt ci zi hct hzt hci hzi c2 l2 hk9 hk11
                          refine on_told (fun W => RBldAt W1.heap.size (W1.heap.size + 1) (.slice ab bs.length cb) s.progs (i + 1) (((s.mate ++ List.replicate (bs.length - i) (-1)).set t i).set i t) s.op.dropLast (.slice (some ⟨gp, 0, none⟩) (s.progs).length cp) (.slice (some ⟨gm, 0, none⟩) ((s.mate ++ List.replicate (bs.length - i) (-1))).length cm) (.slice (some ⟨go, 0, none⟩) m co) W ∧ Below W1.heap.size W1 W) ⟨HB3.out, HBEL3.out⟩ fun wx8 h8 => ?_
                          have H8 := Lib.hid h8
                          clear h8 HB3 HBEL3
                          go_simp
                          go_wp2_with fail
                          go_roundw
                          case rel => exact ⟨i + 1, by omega, by go_num, _, HR2.out, _, _, by rw [HMT.out]; exact H8.out.1, H8.out.2⟩
                          case measure => simp [intOf]; omega
                        · have he' : (nOf bs t != b.n) = true := by simpa using he
                          have HEN := Lib.hid he
                          clear he
                          have HE := Lib.hid (show buildB bs = .err i 11 by rw [HBU.out, run_step_err HR.out HB.out (HERR.out HEN.out)])
                          let S0 : World → Prop := fun W => RSt W1 (W1.heap.size + 1) (.slice ab bs.length cb) wy.heap.size b (pl i) s.progs (i + 1) (s.mate ++ List.replicate (bs.length - i) (-1)) s.op (.slice (some ⟨gp, 0, none⟩) (s.progs).length cp) vm (.slice (some ⟨go, 0, none⟩) (m + 1) co) W
                          have hs : S0 wx.drew := HX.out.under (Below.refl _ _).drew
                          have inst : Nonempty (At S0) := ⟨⟨_, hs⟩⟩
                          have hSTA : ∀ p : At S0, RSt W1 (W1.heap.size + 1) (.slice ab bs.length cb) wy.heap.size b (pl i) s.progs (i + 1) (s.mate ++ List.replicate (bs.length - i) (-1)) s.op (.slice (some ⟨gp, 0, none⟩) (s.progs).length cp) vm (.slice (some ⟨go, 0, none⟩) (m + 1) co) p.w := fun p => p.ok
                          have HSTA := Lib.hid hSTA
                          clear hSTA
                          go_wp2_with fail
                          have y1 : ∀ p : At S0, p.w.cell? ⟨go, m, none⟩ = some (.int .i64 t) := fun p => by
                            obtain ⟨g', e, _, _, hc⟩ := (HSTA.out p).bld.opAt HTM.out
                            injection e with e
                            injection e with e
                            subst e
                            exact hc
                          have y2 : ∀ p : At S0, p.w.cell? ⟨sb, so + t * 11 + 10, none⟩ = some (.int .i64 (nOf bs t)) := fun p => blk_n (HSRC.out p.w (HSTA.out p).bel) (by omega)
                          have y3 : ∀ p : At S0, p.w.cell? ⟨wy.heap.size, 10, none⟩ = some (.int .i64 b.n) := fun p => (HSTA.out p).blk.cell' 10 rfl
                          clear_value S0
                          refine wp_region_at S0 (by kernel_rfl) (by kernel_rfl) hs ?_
                          repeat go_big_quiet_step (fail)
                          refine wpQuiet_nil ?_
                          rintro _ ⟨p, rfl⟩
                          have HX5 := Lib.hid (HSTA.out p)
                          clear HSTA HX n0 n1 n6
                          clear y1 y2 y3
                          generalize p.w = wx at *
                          have HX := HX5
                          have T3 := Lib.hid (T1.out.below HX.out.bel)
                          have r0 := (T3.out).r.cell 0
                          have r1 := (T3.out).r.cell 1
                          have r2 := (T3.out).r.cell 2
                          have s0 := (T3.out).r.frozen 0
                          have s1 := (T3.out).r.frozen 1
                          have s2 := (T3.out).r.frozen 2
                          have n0 := (T3.out).n.cell 0
                          have n1 := (T3.out).n.cell 1
                          have n2 := (T3.out).n.cell 2
                          go_wp2_with fail
                          refine bodyPost_ret (v := .tuple #[libV 0 0 0 none 0 none 0 none 0, .int .i64 i, .int .i64 11]) (by simp [results, Try.results23, go_sem, libV, r0, r1, r2]) rfl ?_
                          exact LibPost.err HE.out (((T3.out.bel.setCell (by simp) _).setCell (by simp) _).setCell (by simp) _) rfl
                    · have k5 : (b.kind == 5) = false := by simpa using h5
                      have HSTEP := Lib.hid (show stepB bs b i s = .ok ⟨s.progs, s.mate ++ [-1], s.op⟩ by
                        unfold stepB
                        rw [if_neg (by omega), if_neg (by omega), HDL.out, if_neg (by decide), if_neg h4, if_neg h5, HPB.out])
                      have HR2 := Lib.hid (run_step_ok HR.out HB.out HSTEP.out)
                      have HMS := Lib.hid (mm_succ s.mate hlt)
                      clear h4 h5 h6 hlab
                      go_wp2_with fail
                      go_roundw
                      case rel => exact ⟨i + 1, by omega, by go_num, _, HR2.out, _, _, by rw [HMS.out]; exact HX.out.bld, HX.out.bel⟩
                      case measure => simp [intOf]; omega
                · skip
                  have l0 : decide (0 < b.label) = true := decide_eq_true (by omega)
                  have f0 : (0 : Int) ≤ ((lastFirst s.progs) : Nat) := by omega
                  have hfi : (lastFirst s.progs) ≤ i := HOK.out.first
                  go_wp2_with fail
                  go_loopw [15] (fun s15 W => ∃ k : Nat, (lastFirst s.progs) ≤ k ∧ k ≤ i ∧ s15 = .int .i64 k ∧ (∀ (j : Nat) (b' : BlkL), (lastFirst s.progs) ≤ j → j < k → bs[j]? = some b' → b'.label ≠ b.label) ∧ RSt W1 (W1.heap.size + 1) (.slice ab bs.length cb) wy.heap.size b (pl i) s.progs i (s.mate ++ List.replicate (bs.length - i) (-1)) s.op (.slice (some ⟨gp, 0, none⟩) (s.progs).length cp) vm u8 W) (fun s15 _ => i - (intOf s15).toNat)
                  case atStart => exact ⟨(lastFirst s.progs), Nat.le_refl _, hfi, rfl, fun j b' h1 h2 => by omega, HX.out⟩
                  case round =>
                    clear l1 p1 p2 z2 n0 n1 n6 HX
                    rename World => wx
                    obtain ⟨k, hk1, hk2, rfl, hall, hx9⟩ := hrel
                    have HX := Lib.hid hx9
                    have HA := Lib.hid hall
                    have k0 : (0 : Int) ≤ (k : Int) := by omega
                    clear hx9 hall
                    by_cases hki : k < i
                    · skip
                      have d2 : decide (k < i) = true := by simpa using hki
                      have k1 : (k : Int) < (bs.length : Int) := by omega
                      have hbk : bs[k]? = some bs[k] := List.getElem?_eq_getElem (by omega)
                      generalize bs[k] = b2 at hbk
                      have HB2 := Lib.hid hbk
                      clear hbk
                      by_cases he : b2.label = b.label
                      · have e1 : (b2.label == b.label) = true := by simpa using he
                        have HE2 := Lib.hid he
                        clear he
                        have n0 : wx.cell? ⟨wy.heap.size, 0, none⟩ = some (.int .i64 b.kind) := HX.out.blk.cell' 0 rfl
                        have n1 : wx.cell? ⟨wy.heap.size, 1, none⟩ = some (.int .i64 b.label) := HX.out.blk.cell' 1 rfl
                        have n6 : wx.cell? ⟨wy.heap.size, 10, none⟩ = some (.int .i64 b.n) := HX.out.blk.cell' 10 rfl
                        go_wp2_with fail
                        refine region_L (fun W => RSt W1 (W1.heap.size + 1) (.slice ab bs.length cb) wy.heap.size b (pl i) s.progs i (s.mate ++ List.replicate (bs.length - i) (-1)) s.op (.slice (some ⟨gp, 0, none⟩) (s.progs).length cp) vm u8 W) [] (by kernel_rfl) ?_
                        have hS0 := HX.out.under (Below.refl _ _).drew
                        refine take_P 0 (v := .slice (some ⟨sb, so, none⟩) bs.length cap) rfl (by kernel_rfl) (by kernel_rfl) (by kernel_rfl) (fun _ _ _ h => h) rfl (fun W' => by go_simp) ?_
                        refine take_P 1 (v := .int .i64 k) rfl (by kernel_rfl) (by kernel_rfl) (by kernel_rfl) (fun _ _ _ h => h) rfl (fun W' => by go_simp) ?_
                        refine take_P 2 (v := .pointer (some ⟨sb, so + k * 11, none⟩)) rfl (by kernel_rfl) (by kernel_rfl) (by kernel_rfl) (fun _ _ _ h => h) rfl (fun W' => by go_simp) ?_
                        refine take_P 3 (v := .pointer (some ⟨sb, so + k * 11 + 1, none⟩)) rfl (by kernel_rfl) (by kernel_rfl) (by kernel_rfl) (fun _ _ _ h => h) rfl (fun W' => by go_simp) ?_
                        refine take_L 4 (v := .int .i64 b2.label) rfl (by kernel_rfl) (by kernel_rfl) (by kernel_rfl) (by kernel_rfl) (fun _ _ _ h => h) rfl (fun W' hW' => by have e4 := blk_label (HSRC.out W' hW'.bel) HB2.out; clear hW'; go_simp) hS0 ?_
                        refine take_P 5 (v := .pointer (some ⟨wy.heap.size, 1, none⟩)) rfl (by kernel_rfl) (by kernel_rfl) (by kernel_rfl) (fun _ _ _ h => h) rfl (fun W' => by go_simp) ?_
                        refine take_L 6 (v := .int .i64 b.label) rfl (by kernel_rfl) (by kernel_rfl) (by kernel_rfl) (by kernel_rfl) (fun _ _ _ h => h) rfl (fun W' hW' => by have e4 : W'.cell? ⟨wy.heap.size, 1, none⟩ = some (.int .i64 b.label) := hW'.blk.cell' 1 rfl; clear hW'; go_simp) hS0 ?_
                        refine take_P 7 (v := .bool true) rfl (by kernel_rfl) (by kernel_rfl) (by kernel_rfl) (fun _ _ _ h => h) rfl (fun W' => by go_simp) ?_
                        refine done_L (by kernel_rfl) ?_ _
                        clear n0 n1 n6
                        refine on_told (fun W => RSt W1 (W1.heap.size + 1) (.slice ab bs.length cb) wy.heap.size b (pl i) s.progs i (s.mate ++ List.replicate (bs.length - i) (-1)) s.op (.slice (some ⟨gp, 0, none⟩) (s.progs).length cp) vm u8 W) hS0 fun wx hx9 => ?_
                        have HX := Lib.hid hx9
                        clear hx9
                        clear hS0
                        go_simp
                        have HDL := Lib.hid (show dupL bs b i s = true by
                          unfold dupL
                          rw [HPB.out]
                          refine decide_eq_true ⟨by omega, ?_⟩
                          exact (labelsOf_mem (by omega) hi).2 ⟨k, b2, by omega, hki, HB2.out, HE2.out⟩)
                        have HE := Lib.hid (show buildB bs = .err i 7 by
                          rw [HBU.out, run_step_err HR.out HB.out]
                          (unfold stepB; rw [if_neg (by omega), if_neg (by omega), if_pos HDL.out]))
                        have T3 := Lib.hid (T1.out.below HX.out.bel)
                        have r0 := (T3.out).r.cell 0
                        have r1 := (T3.out).r.cell 1
                        have r2 := (T3.out).r.cell 2
                        have s0 := (T3.out).r.frozen 0
                        have s1 := (T3.out).r.frozen 1
                        have s2 := (T3.out).r.frozen 2
                        have n0 := (T3.out).n.cell 0
                        have n1 := (T3.out).n.cell 1
                        have n2 := (T3.out).n.cell 2
                        go_wp2_with fail
                        refine bodyPost_ret (v := .tuple #[libV 0 0 0 none 0 none 0 none 0, .int .i64 i, .int .i64 7]) (by simp [results, Try.results23, go_sem, libV, r0, r1, r2]) rfl ?_
                        exact LibPost.err HE.out (((T3.out.bel.setCell (by simp) _).setCell (by simp) _).setCell (by simp) _) rfl
                      · have e1 : (b2.label == b.label) = false := by simpa using he
                        have HE2 := Lib.hid he
                        clear he
                        have n0 : wx.cell? ⟨wy.heap.size, 0, none⟩ = some (.int .i64 b.kind) := HX.out.blk.cell' 0 rfl
                        have n1 : wx.cell? ⟨wy.heap.size, 1, none⟩ = some (.int .i64 b.label) := HX.out.blk.cell' 1 rfl
                        have n6 : wx.cell? ⟨wy.heap.size, 10, none⟩ = some (.int .i64 b.n) := HX.out.blk.cell' 10 rfl
                        go_wp2_with fail
                        refine region_L (fun W => RSt W1 (W1.heap.size + 1) (.slice ab bs.length cb) wy.heap.size b (pl i) s.progs i (s.mate ++ List.replicate (bs.length - i) (-1)) s.op (.slice (some ⟨gp, 0, none⟩) (s.progs).length cp) vm u8 W) [] (by kernel_rfl) ?_
                        have hS0 := HX.out.under (Below.refl _ _).drew
                        refine take_P 0 (v := .slice (some ⟨sb, so, none⟩) bs.length cap) rfl (by kernel_rfl) (by kernel_rfl) (by kernel_rfl) (fun _ _ _ h => h) rfl (fun W' => by go_simp) ?_
                        refine take_P 1 (v := .int .i64 k) rfl (by kernel_rfl) (by kernel_rfl) (by kernel_rfl) (fun _ _ _ h => h) rfl (fun W' => by go_simp) ?_
                        refine take_P 2 (v := .pointer (some ⟨sb, so + k * 11, none⟩)) rfl (by kernel_rfl) (by kernel_rfl) (by kernel_rfl) (fun _ _ _ h => h) rfl (fun W' => by go_simp) ?_
                        refine take_P 3 (v := .pointer (some ⟨sb, so + k * 11 + 1, none⟩)) rfl (by kernel_rfl) (by kernel_rfl) (by kernel_rfl) (fun _ _ _ h => h) rfl (fun W' => by go_simp) ?_
                        refine take_L 4 (v := .int .i64 b2.label) rfl (by kernel_rfl) (by kernel_rfl) (by kernel_rfl) (by kernel_rfl) (fun _ _ _ h => h) rfl (fun W' hW' => by have e4 := blk_label (HSRC.out W' hW'.bel) HB2.out; clear hW'; go_simp) hS0 ?_
                        refine take_P 5 (v := .pointer (some ⟨wy.heap.size, 1, none⟩)) rfl (by kernel_rfl) (by kernel_rfl) (by kernel_rfl) (fun _ _ _ h => h) rfl (fun W' => by go_simp) ?_
                        refine take_L 6 (v := .int .i64 b.label) rfl (by kernel_rfl) (by kernel_rfl) (by kernel_rfl) (by kernel_rfl) (fun _ _ _ h => h) rfl (fun W' hW' => by have e4 : W'.cell? ⟨wy.heap.size, 1, none⟩ = some (.int .i64 b.label) := hW'.blk.cell' 1 rfl; clear hW'; go_simp) hS0 ?_
                        refine take_P 7 (v := .bool false) rfl (by kernel_rfl) (by kernel_rfl) (by kernel_rfl) (fun _ _ _ h => h) rfl (fun W' => by go_simp) ?_
                        refine done_L (by kernel_rfl) ?_ _
                        clear n0 n1 n6
                        refine on_told (fun W => RSt W1 (W1.heap.size + 1) (.slice ab bs.length cb) wy.heap.size b (pl i) s.progs i (s.mate ++ List.replicate (bs.length - i) (-1)) s.op (.slice (some ⟨gp, 0, none⟩) (s.progs).length cp) vm u8 W) hS0 fun wx hx9 => ?_
                        have HX := Lib.hid hx9
                        clear hx9
                        clear hS0
                        go_simp
                        go_wp2_with fail
                        go_roundw
                        case rel => exact ⟨k + 1, by omega, by omega, by go_num, fun j b' h1 h2 h3 => by
                          by_cases ej : j = k
                          · subst ej
                            rw [HB2.out] at h3
                            injection h3 with h3
                            rw [← h3]
                            exact HE2.out
                          · exact HA.out j b' h1 (by omega) h3, HX.out⟩
                        case measure => simp [intOf]; omega
                    · obtain rfl : i = k := by omega
                      have d2 : decide (i < i) = false := by simp
                      have HDL := Lib.hid (show dupL bs b i s = false by
                        unfold dupL
                        rw [HPB.out]
                        refine decide_eq_false fun h => ?_
                        obtain ⟨j, b', h1, h2, h3, h4⟩ := (labelsOf_mem (by omega) hi).1 h.2
                        exact HA.out j b' (by omega) h2 h3 h4)
                      have hq := HQ.out
                      obtain ⟨gp', cp', e, _, _, hcel, hfro⟩ := HX.out.bld.progAt (k := q) (by omega)
                      injection e with e1 _ e3
                      injection e1 with e1
                      injection e1 with e1
                      subst e1 e3
                      have l1 : wx.cell? ⟨(W1.heap.size + 1), 1, none⟩ = some (.slice (some ⟨gp, 0, none⟩) (q + 1) cp) := by
                        have := HX.out.bld.blk.cell' 1 rfl
                        rw [hq] at this
                        exact this
                      have p1 : wx.cell? ⟨gp, q * 3 + 1, none⟩ = some (.int .i64 ((lastFirst s.progs) : Nat)) := by
                        have := hcel 1 (by decide)
                        rw [show ((lastFirst s.progs) : Nat) = ((s.progs).getD q (0, 0)).2 from (lastFirst_at hq).symm]
                        exact this
                      have p2 : wx.cell? ⟨gp, q * 3 + 2, none⟩ = some (.int .i64 (i : Nat)) := by
                        have := hcel 2 (by decide)
                        have e2 : ¬ q + 1 < (s.progs).length := by omega
                        simp only [progC, e2, if_false] at this
                        exact this
                      have z2 : wx.frozen? ⟨gp, q * 3 + 2, none⟩ = false := hfro _
                      clear hcel hfro hq
                      have n0 : wx.cell? ⟨wy.heap.size, 0, none⟩ = some (.int .i64 b.kind) := HX.out.blk.cell' 0 rfl
                      have n1 : wx.cell? ⟨wy.heap.size, 1, none⟩ = some (.int .i64 b.label) := HX.out.blk.cell' 1 rfl
                      have n6 : wx.cell? ⟨wy.heap.size, 10, none⟩ = some (.int .i64 b.n) := HX.out.blk.cell' 10 rfl
                      have HEND := Lib.hid (show RSt W1 (W1.heap.size + 1) (.slice ab bs.length cb) wy.heap.size b (pl i) s.progs (i + 1) (s.mate ++ List.replicate (bs.length - i) (-1)) s.op (.slice (some ⟨gp, 0, none⟩) (s.progs).length cp) vm u8 (wx.setCell ⟨gp, q * 3 + 2, none⟩ (.int .i64 (i + 1 : Nat))) from by
                        have h1 := HX.out.bld.endSet (by intro e; have := HQ.out; rw [e] at this; cases this) rfl (i + 1)
                        rw [HQ.out, Nat.add_sub_cancel] at h1
                        rw [HQ.out]
                        have gr : wx.grownBy (wx.setCell ⟨gp, q * 3 + 2, none⟩ (.int .i64 (i + 1 : Nat))) (some gp) := grown_setCell (p := ⟨gp, q * 3 + 2, none⟩) (grown_refl _ _) (.inl rfl) _
                        exact ⟨h1, HX.out.blk.grown gr (fun e => own_ne HX.out.bld.progs HX.out.blk (by decide) e), HX.out.bel.trans (below_of_grown gr HX.out.bel.size (fun k e => by injection e with e; omega))⟩)
                      go_upto_region 34 with (fail)
                      refine on_told (fun W => RSt W1 (W1.heap.size + 1) (.slice ab bs.length cb) wy.heap.size b (pl i) s.progs (i + 1) (s.mate ++ List.replicate (bs.length - i) (-1)) s.op (.slice (some ⟨gp, 0, none⟩) (s.progs).length cp) vm u8 W) HEND.out fun wx hx9 => ?_
                      have HX := Lib.hid hx9
                      clear hx9
                      clear HEND l1 p1 p2 z2 n0 n1 n6
                      have n0 : wx.cell? ⟨wy.heap.size, 0, none⟩ = some (.int .i64 b.kind) := HX.out.blk.cell' 0 rfl
                      have n1 : wx.cell? ⟨wy.heap.size, 1, none⟩ = some (.int .i64 b.label) := HX.out.blk.cell' 1 rfl
                      have n6 : wx.cell? ⟨wy.heap.size, 10, none⟩ = some (.int .i64 b.n) := HX.out.blk.cell' 10 rfl
                      by_cases h4 : b.kind = 4
                      · have k4 : (b.kind == 4) = true := by simpa using h4
                        have HERR := Lib.hid (fun hs : sameN bs b s = true => show stepB bs b i s = .err i 11 by
                          unfold stepB
                          rw [if_neg (by omega), if_neg (by omega), HDL.out, if_neg (by decide), if_pos h4, if_pos hs])
                        have HOKS := Lib.hid (fun hs : sameN bs b s = false => show stepB bs b i s = .ok ⟨s.progs, s.mate ++ [-1], s.op ++ [i]⟩ by
                          unfold stepB
                          rw [if_neg (by omega), if_neg (by omega), HDL.out, if_neg (by decide), if_pos h4, if_neg (by rw [hs]; decide), HPB.out])
                        have HMS := Lib.hid (mm_succ s.mate hlt)
                        clear h4 h6 hlab
                        obtain ⟨lo, co, rfl⟩ := own_form HX.out.bld.op
                        go_wp2_with fail
                        go_loopw [16] (fun s16 W => ∃ j : Nat, j ≤ s.op.length ∧ s16 = .int .i64 j ∧ (∀ (q t : Nat), q < j → s.op[q]? = some t → nOf bs t ≠ b.n) ∧ RSt W1 (W1.heap.size + 1) (.slice ab bs.length cb) wy.heap.size b (pl i) s.progs (i + 1) (s.mate ++ List.replicate (bs.length - i) (-1)) s.op (.slice (some ⟨gp, 0, none⟩) (s.progs).length cp) vm (.slice lo s.op.length co) W) (fun s16 _ => s.op.length - (intOf s16).toNat)
                        case atStart => exact ⟨0, by omega, rfl, fun q t h => by omega, HX.out⟩
                        case round =>
                          clear n0 n1 n6 HX
                          rename World => wx
                          obtain ⟨j, hj, rfl, hall, hx9⟩ := hrel
                          have HX := Lib.hid hx9
                          have HA := Lib.hid hall
                          have j0 : (0 : Int) ≤ (j : Int) := by omega
                          have hfew := HOK.out.few
                          clear hx9 hall
                          by_cases hjl : j < s.op.length
                          · have d3 : decide (j < s.op.length) = true := by simpa using hjl
                            have j1 : (j : Int) < (s.op.length : Int) := by omega
                            have ht : s.op[j]? = some s.op[j] := List.getElem?_eq_getElem hjl
                            generalize s.op[j] = t at ht
                            have hti := HOK.out.op t (List.mem_of_getElem? ht)
                            obtain ⟨go, rfl, hgo1, hgo2, c0⟩ := HX.out.bld.opAt ht
                            have t0 : (0 : Int) ≤ (t : Int) := by omega
                            have t1 : (t : Int) < (bs.length : Int) := by omega
                            have HT := Lib.hid ht
                            have HTL := Lib.hid (show t < bs.length by omega)
                            clear ht
                            by_cases he : nOf bs t = b.n
                            · have he' : (nOf bs t == b.n) = true := by simpa using he
                              have HSN := Lib.hid (show sameN bs b s = true from List.any_eq_true.2 ⟨t, List.mem_of_getElem? HT.out, by simpa using he⟩)
                              clear he
                              have n0 : wx.cell? ⟨wy.heap.size, 0, none⟩ = some (.int .i64 b.kind) := HX.out.blk.cell' 0 rfl
                              have n1 : wx.cell? ⟨wy.heap.size, 1, none⟩ = some (.int .i64 b.label) := HX.out.blk.cell' 1 rfl
                              have n6 : wx.cell? ⟨wy.heap.size, 10, none⟩ = some (.int .i64 b.n) := HX.out.blk.cell' 10 rfl
                              go_wp2_with fail
                              refine region_L (fun W => RSt W1 (W1.heap.size + 1) (.slice ab bs.length cb) wy.heap.size b (pl i) s.progs (i + 1) (s.mate ++ List.replicate (bs.length - i) (-1)) s.op (.slice (some ⟨gp, 0, none⟩) (s.progs).length cp) vm (.slice (some ⟨go, 0, none⟩) s.op.length co) W) [] (by kernel_rfl) ?_
                              have hS0 := HX.out.under (Below.refl _ _).drew
                              refine take_P 0 (v := .slice (some ⟨sb, so, none⟩) bs.length cap) rfl (by kernel_rfl) (by kernel_rfl) (by kernel_rfl) (fun _ _ _ h => h) rfl (fun W' => by go_simp) ?_
                              refine take_P 1 (v := .slice (some ⟨go, 0, none⟩) s.op.length co) rfl (by kernel_rfl) (by kernel_rfl) (by kernel_rfl) (fun _ _ _ h => h) rfl (fun W' => by go_simp) ?_
                              refine take_P 2 (v := .int .i64 j) rfl (by kernel_rfl) (by kernel_rfl) (by kernel_rfl) (fun _ _ _ h => h) rfl (fun W' => by go_simp) ?_
                              refine take_P 3 (v := .pointer (some ⟨go, j, none⟩)) rfl (by kernel_rfl) (by kernel_rfl) (by kernel_rfl) (fun _ _ _ h => h) rfl (fun W' => by go_simp) ?_
                              refine take_L 4 (v := .int .i64 t) rfl (by kernel_rfl) (by kernel_rfl) (by kernel_rfl) (by kernel_rfl) (fun _ _ _ h => h) rfl (fun W' hW' => by have e4 : W'.cell? ⟨go, j, none⟩ = some (.int .i64 t) := (by obtain ⟨g', e, _, _, hc⟩ := hW'.bld.opAt HT.out; injection e with e; injection e with e; subst e; exact hc); clear hW'; go_simp) hS0 ?_
                              refine take_P 5 (v := .pointer (some ⟨sb, so + t * 11, none⟩)) rfl (by kernel_rfl) (by kernel_rfl) (by kernel_rfl) (fun _ _ _ h => h) rfl (fun W' => by go_simp) ?_
                              refine take_P 6 (v := .pointer (some ⟨sb, so + t * 11 + 10, none⟩)) rfl (by kernel_rfl) (by kernel_rfl) (by kernel_rfl) (fun _ _ _ h => h) rfl (fun W' => by go_simp) ?_
                              refine take_L 7 (v := .int .i64 (nOf bs t)) rfl (by kernel_rfl) (by kernel_rfl) (by kernel_rfl) (by kernel_rfl) (fun _ _ _ h => h) rfl (fun W' hW' => by have e4 := blk_n (HSRC.out W' hW'.bel) HTL.out; clear hW'; go_simp) hS0 ?_
                              refine take_P 8 (v := .pointer (some ⟨wy.heap.size, 10, none⟩)) rfl (by kernel_rfl) (by kernel_rfl) (by kernel_rfl) (fun _ _ _ h => h) rfl (fun W' => by go_simp) ?_
                              refine take_L 9 (v := .int .i64 b.n) rfl (by kernel_rfl) (by kernel_rfl) (by kernel_rfl) (by kernel_rfl) (fun _ _ _ h => h) rfl (fun W' hW' => by have e4 : W'.cell? ⟨wy.heap.size, 10, none⟩ = some (.int .i64 b.n) := hW'.blk.cell' 10 rfl; clear hW'; go_simp) hS0 ?_
                              refine take_P 10 (v := .bool true) rfl (by kernel_rfl) (by kernel_rfl) (by kernel_rfl) (fun _ _ _ h => h) rfl (fun W' => by go_simp) ?_
                              refine done_L (by kernel_rfl) ?_ _
                              clear n0 n1 n6 c0
                              refine on_told (fun W => RSt W1 (W1.heap.size + 1) (.slice ab bs.length cb) wy.heap.size b (pl i) s.progs (i + 1) (s.mate ++ List.replicate (bs.length - i) (-1)) s.op (.slice (some ⟨gp, 0, none⟩) (s.progs).length cp) vm (.slice (some ⟨go, 0, none⟩) s.op.length co) W) hS0 fun wx hx9 => ?_
                              have HX := Lib.hid hx9
                              clear hx9
                              clear hS0
                              go_simp
                              have HE := Lib.hid (show buildB bs = .err i 11 by rw [HBU.out, run_step_err HR.out HB.out (HERR.out HSN.out)])
                              have T3 := Lib.hid (T1.out.below HX.out.bel)
                              have r0 := (T3.out).r.cell 0
                              have r1 := (T3.out).r.cell 1
                              have r2 := (T3.out).r.cell 2
                              have s0 := (T3.out).r.frozen 0
                              have s1 := (T3.out).r.frozen 1
                              have s2 := (T3.out).r.frozen 2
                              have n0 := (T3.out).n.cell 0
                              have n1 := (T3.out).n.cell 1
                              have n2 := (T3.out).n.cell 2
                              go_wp2_with fail
                              refine bodyPost_ret (v := .tuple #[libV 0 0 0 none 0 none 0 none 0, .int .i64 i, .int .i64 11]) (by simp [results, Try.results23, go_sem, libV, r0, r1, r2]) rfl ?_
                              exact LibPost.err HE.out (((T3.out.bel.setCell (by simp) _).setCell (by simp) _).setCell (by simp) _) rfl
                            · have he' : (nOf bs t == b.n) = false := by simpa using he
                              have HEN := Lib.hid he
                              clear he
                              have n0 : wx.cell? ⟨wy.heap.size, 0, none⟩ = some (.int .i64 b.kind) := HX.out.blk.cell' 0 rfl
                              have n1 : wx.cell? ⟨wy.heap.size, 1, none⟩ = some (.int .i64 b.label) := HX.out.blk.cell' 1 rfl
                              have n6 : wx.cell? ⟨wy.heap.size, 10, none⟩ = some (.int .i64 b.n) := HX.out.blk.cell' 10 rfl
                              go_wp2_with fail
                              refine region_L (fun W => RSt W1 (W1.heap.size + 1) (.slice ab bs.length cb) wy.heap.size b (pl i) s.progs (i + 1) (s.mate ++ List.replicate (bs.length - i) (-1)) s.op (.slice (some ⟨gp, 0, none⟩) (s.progs).length cp) vm (.slice (some ⟨go, 0, none⟩) s.op.length co) W) [] (by kernel_rfl) ?_
                              have hS0 := HX.out.under (Below.refl _ _).drew
                              refine take_P 0 (v := .slice (some ⟨sb, so, none⟩) bs.length cap) rfl (by kernel_rfl) (by kernel_rfl) (by kernel_rfl) (fun _ _ _ h => h) rfl (fun W' => by go_simp) ?_
                              refine take_P 1 (v := .slice (some ⟨go, 0, none⟩) s.op.length co) rfl (by kernel_rfl) (by kernel_rfl) (by kernel_rfl) (fun _ _ _ h => h) rfl (fun W' => by go_simp) ?_
                              refine take_P 2 (v := .int .i64 j) rfl (by kernel_rfl) (by kernel_rfl) (by kernel_rfl) (fun _ _ _ h => h) rfl (fun W' => by go_simp) ?_
                              refine take_P 3 (v := .pointer (some ⟨go, j, none⟩)) rfl (by kernel_rfl) (by kernel_rfl) (by kernel_rfl) (fun _ _ _ h => h) rfl (fun W' => by go_simp) ?_
                              refine take_L 4 (v := .int .i64 t) rfl (by kernel_rfl) (by kernel_rfl) (by kernel_rfl) (by kernel_rfl) (fun _ _ _ h => h) rfl (fun W' hW' => by have e4 : W'.cell? ⟨go, j, none⟩ = some (.int .i64 t) := (by obtain ⟨g', e, _, _, hc⟩ := hW'.bld.opAt HT.out; injection e with e; injection e with e; subst e; exact hc); clear hW'; go_simp) hS0 ?_
                              refine take_P 5 (v := .pointer (some ⟨sb, so + t * 11, none⟩)) rfl (by kernel_rfl) (by kernel_rfl) (by kernel_rfl) (fun _ _ _ h => h) rfl (fun W' => by go_simp) ?_
                              refine take_P 6 (v := .pointer (some ⟨sb, so + t * 11 + 10, none⟩)) rfl (by kernel_rfl) (by kernel_rfl) (by kernel_rfl) (fun _ _ _ h => h) rfl (fun W' => by go_simp) ?_
                              refine take_L 7 (v := .int .i64 (nOf bs t)) rfl (by kernel_rfl) (by kernel_rfl) (by kernel_rfl) (by kernel_rfl) (fun _ _ _ h => h) rfl (fun W' hW' => by have e4 := blk_n (HSRC.out W' hW'.bel) HTL.out; clear hW'; go_simp) hS0 ?_
                              refine take_P 8 (v := .pointer (some ⟨wy.heap.size, 10, none⟩)) rfl (by kernel_rfl) (by kernel_rfl) (by kernel_rfl) (fun _ _ _ h => h) rfl (fun W' => by go_simp) ?_
                              refine take_L 9 (v := .int .i64 b.n) rfl (by kernel_rfl) (by kernel_rfl) (by kernel_rfl) (by kernel_rfl) (fun _ _ _ h => h) rfl (fun W' hW' => by have e4 : W'.cell? ⟨wy.heap.size, 10, none⟩ = some (.int .i64 b.n) := hW'.blk.cell' 10 rfl; clear hW'; go_simp) hS0 ?_
                              refine take_P 10 (v := .bool false) rfl (by kernel_rfl) (by kernel_rfl) (by kernel_rfl) (fun _ _ _ h => h) rfl (fun W' => by go_simp) ?_
                              refine done_L (by kernel_rfl) ?_ _
                              clear n0 n1 n6 c0
                              refine on_told (fun W => RSt W1 (W1.heap.size + 1) (.slice ab bs.length cb) wy.heap.size b (pl i) s.progs (i + 1) (s.mate ++ List.replicate (bs.length - i) (-1)) s.op (.slice (some ⟨gp, 0, none⟩) (s.progs).length cp) vm (.slice (some ⟨go, 0, none⟩) s.op.length co) W) hS0 fun wx hx9 => ?_
                              have HX := Lib.hid hx9
                              clear hx9
                              clear hS0
                              go_simp
                              go_wp2_with fail
                              go_roundw
                              case rel => exact ⟨j + 1, by omega, by go_num, fun q t' hq ht' => by
                                by_cases e : q = j
                                · subst e
                                  rw [HT.out] at ht'
                                  injection ht' with ht'
                                  subst ht'
                                  exact HEN.out
                                · exact HA.out q t' (by omega) ht', HX.out⟩
                              case measure => simp [intOf]; omega
                          · obtain rfl : s.op.length = j := by omega
                            have d3 : decide (s.op.length < s.op.length) = false := by simp
                            have HSN := Lib.hid (show sameN bs b s = false from List.any_eq_false.2 fun t ht => by
                              obtain ⟨q, hq⟩ := List.mem_iff_getElem?.1 ht
                              simpa using HA.out q t (List.getElem?_eq_some_iff.1 hq).1 hq)
                            have HR2 := Lib.hid (run_step_ok HR.out HB.out (HOKS.out HSN.out))
                            have HOP := Lib.hid (HX.out.bld.op.alloc (.cells #[.int .i64 i] 3))
                            have HB4 := Lib.hid (Blk.new wx 3 #[.int .i64 i])
                            have HL4 := Lib.hid (show W1.heap.size ≤ (wx.alloc (.cells #[.int .i64 i] 3)).heap.size by have := HX.out.bel.size; simp; omega)
                            go_wp2_with (at_builtin; refine wpList_push rfl (.tmp 152) (.tmp 154) 23 rfl W1.heap.size 3 (.int .i64 0) 1 8 Try.underlying23 infoInt rfl (by decide) (by decide) (.slice lo s.op.length co) s.op.length (intC (s.op.map (fun n : Nat => (n : Int)))) rfl HOP.out wx.heap.size [.int .i64 i] rfl HB4.out rfl (by simp [Value.oneCell']) ?c3 HL4.out ?c4)
                            case c3 => omega
                            case c4 =>
                              intro g6 c6 w6 hp
                              have h4 := HX.out
                              have hb1 : Below wx.heap.size wx (wx.alloc (.cells #[.int .i64 i] 3)) := (Below.refl _ _).alloc (Nat.le_refl _) _
                              have HBL6 := Lib.hid ((h4.bld.under hb1).pushOp hp)
                              have HBEL6 := Lib.hid ((h4.bel.alloc h4.bel.size (.cells #[.int .i64 i] 3)).trans (below_of_grown hp.grown (by have := h4.bel.size; simp; omega) (fun k e => (h4.bld.op.lt k e).1)))
                              clear hp h4 hb1
                              go_wp2_with fail
                              go_roundw
                              case rel => exact ⟨i + 1, by omega, by go_num, _, HR2.out, _, _, by rw [HMS.out]; exact HBL6.out, HBEL6.out⟩
                              case measure => simp [intOf]; omega
                      · have k4 : (b.kind == 4) = false := by simpa using h4
                        by_cases h5 : b.kind = 5
                        · have k5 : (b.kind == 5) = true := by simpa using h5
                          have HMS := Lib.hid (mm_succ s.mate hlt)
                          obtain ⟨lo, co, rfl⟩ := own_form HX.out.bld.op
                          by_cases hop : s.op = []
                          · have hl0 : s.op.length = 0 := by rw [hop]; rfl
                            have HE := Lib.hid (show buildB bs = .err i 11 by
                              rw [HBU.out, run_step_err HR.out HB.out]
                              unfold stepB
                              rw [if_neg (by omega), if_neg (by omega), HDL.out, if_neg (by decide), if_neg h4, if_pos h5, if_pos (.inl hop)])
                            have HX0 := HX.out
                            rw [hl0] at HX0
                            have HX := Lib.hid HX0
                            rw [hl0]
                            clear HX0 hop hl0 h4 h5 h6 hlab
                            let S0 : World → Prop := fun W => RSt W1 (W1.heap.size + 1) (.slice ab bs.length cb) wy.heap.size b (pl i) s.progs (i + 1) (s.mate ++ List.replicate (bs.length - i) (-1)) s.op (.slice (some ⟨gp, 0, none⟩) (s.progs).length cp) vm (.slice lo 0 co) W
                            have hs : S0 wx.drew := HX.out.under (Below.refl _ _).drew
                            have inst : Nonempty (At S0) := ⟨⟨_, hs⟩⟩
                            have hSTA : ∀ p : At S0, RSt W1 (W1.heap.size + 1) (.slice ab bs.length cb) wy.heap.size b (pl i) s.progs (i + 1) (s.mate ++ List.replicate (bs.length - i) (-1)) s.op (.slice (some ⟨gp, 0, none⟩) (s.progs).length cp) vm (.slice lo 0 co) p.w := fun p => p.ok
                            have HSTA := Lib.hid hSTA
                            clear hSTA
                            go_wp2_with fail
                            clear_value S0
                            refine wp_region_at S0 (by kernel_rfl) (by kernel_rfl) hs ?_
                            repeat go_big_quiet_step (fail)
                            refine wpQuiet_nil ?_
                            rintro _ ⟨p, rfl⟩
                            have HX5 := Lib.hid (HSTA.out p)
                            clear HSTA HX n0 n1 n6
                            generalize p.w = wx at *
                            have HX := HX5
                            have T3 := Lib.hid (T1.out.below HX.out.bel)
                            have r0 := (T3.out).r.cell 0
                            have r1 := (T3.out).r.cell 1
                            have r2 := (T3.out).r.cell 2
                            have s0 := (T3.out).r.frozen 0
                            have s1 := (T3.out).r.frozen 1
                            have s2 := (T3.out).r.frozen 2
                            have n0 := (T3.out).n.cell 0
                            have n1 := (T3.out).n.cell 1
                            have n2 := (T3.out).n.cell 2
                            go_wp2_with fail
                            refine bodyPost_ret (v := .tuple #[libV 0 0 0 none 0 none 0 none 0, .int .i64 i, .int .i64 11]) (by simp [results, Try.results23, go_sem, libV, r0, r1, r2]) rfl ?_
                            exact LibPost.err HE.out (((T3.out.bel.setCell (by simp) _).setCell (by simp) _).setCell (by simp) _) rfl
                          · have hbd := HX.out.bld
                            obtain ⟨m, hm⟩ : ∃ m, s.op.length = m + 1 := by
                              cases h : s.op.length with
                              | zero => exact absurd (List.length_eq_zero_iff.1 h) hop
                              | succ m => exact ⟨m, rfl⟩
                            have htm : s.op[m]? = some (topOf s.op) := by
                              have := topOf_at hop
                              rw [hm] at this
                              simpa using this
                            obtain ⟨go, rfl, hgo1, hgo2, _⟩ := hbd.opAt htm
                            have hmn : m < bs.length := by have := HOK.out.few; omega
                            have HTM := Lib.hid htm
                            have HM := Lib.hid hm
                            have hml : m < i := by have := HOK.out.few; omega
                            have htl : topOf s.op < i := HOK.out.op _ (topOf_mem hop)
                            have HX0 := HX.out
                            rw [hm] at HX0
                            have HX := Lib.hid HX0
                            rw [hm]
                            generalize htt : topOf s.op = t at *
                            have HTT := Lib.hid htt
                            have hco := HX0.bld.opCap rfl
                            rw [hm] at hco
                            have HERR := Lib.hid (fun hs : nOf bs t ≠ b.n => show stepB bs b i s = .err i 11 by
                              unfold stepB
                              rw [if_neg (by omega), if_neg (by omega), HDL.out, if_neg (by decide), if_neg h4, if_pos h5, if_pos (.inr (by rw [HTT.out]; exact hs))])
                            have HOKS := Lib.hid (fun hs : nOf bs t = b.n => show stepB bs b i s = .ok ⟨s.progs, ((s.mate ++ [-1]).set t i).set i t, s.op.dropLast⟩ by
                              unfold stepB
                              rw [if_neg (by omega), if_neg (by omega), HDL.out, if_neg (by decide), if_neg h4, if_pos h5, if_neg (by rw [HTT.out]; exact fun h => h.elim hop (fun h => h hs)), HPB.out, HTT.out])
                            have m0 : (0 : Int) ≤ (m : Int) := by omega
                            have m1 : (m : Int) < (m : Int) + 1 := by omega
                            have m2 : ((m : Int) + 1 == 0) = false := by simp; omega
                            have t0 : (0 : Int) ≤ (t : Int) := by omega
                            have t1 : (t : Int) < (bs.length : Int) := by omega
                            clear hm htm hbd HX0 hop htt h4 h5 h6 hlab
                            by_cases he : nOf bs t = b.n
                            · have he' : (nOf bs t != b.n) = false := by simpa using he
                              have HEN := Lib.hid he
                              clear he
                              let S0 : World → Prop := fun W => RSt W1 (W1.heap.size + 1) (.slice ab bs.length cb) wy.heap.size b (pl i) s.progs (i + 1) (s.mate ++ List.replicate (bs.length - i) (-1)) s.op (.slice (some ⟨gp, 0, none⟩) (s.progs).length cp) vm (.slice (some ⟨go, 0, none⟩) (m + 1) co) W
                              have hs : S0 wx.drew := HX.out.under (Below.refl _ _).drew
                              have inst : Nonempty (At S0) := ⟨⟨_, hs⟩⟩
                              have hSTA : ∀ p : At S0, RSt W1 (W1.heap.size + 1) (.slice ab bs.length cb) wy.heap.size b (pl i) s.progs (i + 1) (s.mate ++ List.replicate (bs.length - i) (-1)) s.op (.slice (some ⟨gp, 0, none⟩) (s.progs).length cp) vm (.slice (some ⟨go, 0, none⟩) (m + 1) co) p.w := fun p => p.ok
                              have HSTA := Lib.hid hSTA
                              clear hSTA
                              go_wp2_with fail
                              have y1 : ∀ p : At S0, p.w.cell? ⟨go, m, none⟩ = some (.int .i64 t) := fun p => by
                                obtain ⟨g', e, _, _, hc⟩ := (HSTA.out p).bld.opAt HTM.out
                                injection e with e
                                injection e with e
                                subst e
                                exact hc
                              have y2 : ∀ p : At S0, p.w.cell? ⟨sb, so + t * 11 + 10, none⟩ = some (.int .i64 (nOf bs t)) := fun p => blk_n (HSRC.out p.w (HSTA.out p).bel) (by omega)
                              have y3 : ∀ p : At S0, p.w.cell? ⟨wy.heap.size, 10, none⟩ = some (.int .i64 b.n) := fun p => (HSTA.out p).blk.cell' 10 rfl
                              clear_value S0
                              refine wp_region_at S0 (by kernel_rfl) (by kernel_rfl) hs ?_
                              repeat go_big_quiet_step (fail)
                              refine wpQuiet_nil ?_
                              rintro _ ⟨p, rfl⟩
                              have HX5 := Lib.hid (HSTA.out p)
                              clear HSTA HX n0 n1 n6
                              clear y1 y2 y3
                              generalize p.w = wx at *
                              have HX := HX5
                              have hML := HML.out
                              have c2 : wx.cell? ⟨go, m, none⟩ = some (.int .i64 t) := by
                                obtain ⟨g', e, _, _, hc⟩ := HX.out.bld.opAt HTM.out
                                injection e with e
                                injection e with e
                                subst e
                                exact hc
                              obtain ⟨gm, cm, rfl, hgm1, hgm2, hct, hzt⟩ := HX.out.bld.mateAt (k := t) (by omega)
                              obtain ⟨gm', cm', e, _, _, hci, hzi⟩ := HX.out.bld.mateAt (k := i) (by omega)
                              injection e with e1 _ e3
                              injection e1 with e1
                              injection e1 with e1
                              subst e1 e3
                              have hLg : (W1.heap.size + 1) ≠ gm := fun e => own_ne HX.out.bld.mate HX.out.bld.blk (by decide) (by rw [e]; rfl)
                              have l2 : wx.cell? ⟨(W1.heap.size + 1), 2, none⟩ = some (.slice (some ⟨gm, 0, none⟩) bs.length cm) := by
                                have := HX.out.bld.blk.cell' 2 rfl
                                rw [hML] at this
                                exact this
                              have hbld := HX.out.bld.under (Below.refl _ _).drew
                              have hb1 := hbld.setMate rfl (k := t) (by omega) (i : Int)
                              have hb2 := hb1.setMate (g := gm) (c := cm) (by rw [List.length_set]) (k := i) (by rw [List.length_set]; omega) (t : Int)
                              have hb3 := hb2.popOp (go := go) (co := co) (by rw [HM.out])
                              rw [HM.out, Nat.add_sub_cancel] at hb3
                              have HB3 := Lib.hid hb3
                              have HBEL3 := Lib.hid ((HX.out.bel.drew.setCell (show W1.heap.size ≤ gm from hgm1) (.int .i64 i) : Below W1.heap.size W1 (wx.drew.setCell ⟨gm, t, none⟩ (.int .i64 i))).setCell (p := ⟨gm, i, none⟩) hgm1 (.int .i64 t))
                              have HR2 := Lib.hid (run_step_ok HR.out HB.out (HOKS.out HEN.out))
                              have HMT := Lib.hid (mm_set HOK.out.mate hlt htl (i : Int) (t : Int))
                              have hti : ¬ t = i := by omega
                              have hit : ¬ i = t := by omega
                              have hmco : (m : Int) ≤ (co : Int) := by omega
                              clear hbld hb1 hb2 hb3
                              go_wp2_with fail
                              refine region_L (fun W => W.cell? ⟨(W1.heap.size + 1), 2, none⟩ = some (.slice (some ⟨gm, 0, none⟩) bs.length cm)) [] (by kernel_rfl) ?_
                              have hS0 : wx.drew.cell? ⟨(W1.heap.size + 1), 2, none⟩ = some (.slice (some ⟨gm, 0, none⟩) bs.length cm) := l2
                              refine take_P 0 (v := .pointer (some ⟨(W1.heap.size + 1), 2, none⟩)) rfl (by kernel_rfl) (by kernel_rfl) (by kernel_rfl) (fun _ _ _ h => h) rfl (fun W' => by go_simp) ?_
                              refine take_L 1 (v := .slice (some ⟨gm, 0, none⟩) bs.length cm) rfl (by kernel_rfl) (by kernel_rfl) (by kernel_rfl) (by kernel_rfl) (fun _ _ _ h => h) rfl (fun W' hW' => by have e4 := hW'; clear hW'; go_simp) hS0 ?_
                              refine take_P 2 (v := .int .i64 t) rfl (by kernel_rfl) (by kernel_rfl) (by kernel_rfl) (fun _ _ _ h => h) rfl (fun W' => by go_simp) ?_
                              refine take_P 3 (v := .pointer (some ⟨(W1.heap.size + 1), 2, none⟩)) rfl (by kernel_rfl) (by kernel_rfl) (by kernel_rfl) (fun _ _ _ h => h) rfl (fun W' => by go_simp) ?_
                              refine take_L 4 (v := .slice (some ⟨gm, 0, none⟩) bs.length cm) rfl (by kernel_rfl) (by kernel_rfl) (by kernel_rfl) (by kernel_rfl) (fun _ _ _ h => h) rfl (fun W' hW' => by have e4 := hW'; clear hW'; go_simp) hS0 ?_
                              refine take_P 5 (v := .int .i64 i) rfl (by kernel_rfl) (by kernel_rfl) (by kernel_rfl) (fun _ _ _ h => h) rfl (fun W' => by go_simp) ?_
                              refine take_P 6 (v := .int .i64 i) rfl (by kernel_rfl) (by kernel_rfl) (by kernel_rfl) (fun _ _ _ h => h) rfl (fun W' => by go_simp) ?_
                              refine take_P 7 (v := .int .i64 t) rfl (by kernel_rfl) (by kernel_rfl) (by kernel_rfl) (fun _ _ _ h => h) rfl (fun W' => by go_simp) ?_
                              refine take_P 8 (v := .pointer (some ⟨gm, t, none⟩)) rfl (by kernel_rfl) (by kernel_rfl) (by kernel_rfl) (fun _ _ _ h => h) rfl (fun W' => by go_simp) ?_
                              have ct : wx.drew.cell? ⟨gm, t, none⟩ = some _ := hct
                              have zt : wx.drew.frozen? ⟨gm, t, none⟩ = false := hzt
                              refine one_L 9 (by kernel_rfl) rfl rfl fun K9 hK9 => ?_
                              have HK9 := Lib.hid hK9
                              clear hK9
                              go_simp
                              have hk9 : ∀ u : Value, (wx.drew.setCell ⟨gm, t, none⟩ u).cell? ⟨(W1.heap.size + 1), 2, none⟩ = some (.slice (some ⟨gm, 0, none⟩) bs.length cm) := fun u => by
                                rw [World.cell?_setCell_other _ _ _ _ (fun e => hLg (by injection e with e; exact e.symm))]; exact l2
                              refine HK9.out _ _ (fun _ _ => hk9 _) ?_
                              refine take_P 10 (v := .pointer (some ⟨gm, i, none⟩)) rfl (by kernel_rfl) (by kernel_rfl) (by kernel_rfl) (fun _ _ _ h => h) rfl (fun W' => by go_simp) ?_
                              have ci : (wx.drew.setCell ⟨gm, t, none⟩ (.int .i64 i)).cell? ⟨gm, i, none⟩ = some (.int .i64 ((s.mate ++ List.replicate (bs.length - i) (-1)).getD i 0)) := by
                                rw [World.cell?_setCell_other _ _ _ _ (fun e => hti (by injection e))]; exact hci
                              have zi : wx.drew.frozen? ⟨gm, i, none⟩ = false := hzi
                              refine one_L 11 (by kernel_rfl) rfl rfl fun K11 hK11 => ?_
                              have HK11 := Lib.hid hK11
                              clear hK11
                              go_simp
                              have hk11 : ∀ u v : Value, ((wx.drew.setCell ⟨gm, t, none⟩ u).setCell ⟨gm, i, none⟩ v).cell? ⟨(W1.heap.size + 1), 2, none⟩ = some (.slice (some ⟨gm, 0, none⟩) bs.length cm) := fun u v => by
                                rw [World.cell?_setCell_other _ _ _ _ (fun e => hLg (by injection e with e; exact e.symm))]; exact hk9 u
                              refine HK11.out _ _ (fun _ _ => hk11 _ _) ?_
                              refine done_L (by kernel_rfl) ?_ _
                              clear hS0 HK9 HK11 ct zt ci zi hct hzt hci hzi c2 l2 hk9 hk11
                              refine on_told (fun W => RBldAt W1.heap.size (W1.heap.size + 1) (.slice ab bs.length cb) s.progs (i + 1) (((s.mate ++ List.replicate (bs.length - i) (-1)).set t i).set i t) s.op.dropLast (.slice (some ⟨gp, 0, none⟩) (s.progs).length cp) (.slice (some ⟨gm, 0, none⟩) ((s.mate ++ List.replicate (bs.length - i) (-1))).length cm) (.slice (some ⟨go, 0, none⟩) m co) W ∧ Below W1.heap.size W1 W) ⟨HB3.out, HBEL3.out⟩ fun wx8 h8 => ?_
                              have H8 := Lib.hid h8
                              clear h8 HB3 HBEL3
                              go_simp
                              go_wp2_with fail
                              go_roundw
                              case rel => exact ⟨i + 1, by omega, by go_num, _, HR2.out, _, _, by rw [HMT.out]; exact H8.out.1, H8.out.2⟩
                              case measure => simp [intOf]; omega
                            · have he' : (nOf bs t != b.n) = true := by simpa using he
                              have HEN := Lib.hid he
                              clear he
                              have HE := Lib.hid (show buildB bs = .err i 11 by rw [HBU.out, run_step_err HR.out HB.out (HERR.out HEN.out)])
                              let S0 : World → Prop := fun W => RSt W1 (W1.heap.size + 1) (.slice ab bs.length cb) wy.heap.size b (pl i) s.progs (i + 1) (s.mate ++ List.replicate (bs.length - i) (-1)) s.op (.slice (some ⟨gp, 0, none⟩) (s.progs).length cp) vm (.slice (some ⟨go, 0, none⟩) (m + 1) co) W
                              have hs : S0 wx.drew := HX.out.under (Below.refl _ _).drew
                              have inst : Nonempty (At S0) := ⟨⟨_, hs⟩⟩
                              have hSTA : ∀ p : At S0, RSt W1 (W1.heap.size + 1) (.slice ab bs.length cb) wy.heap.size b (pl i) s.progs (i + 1) (s.mate ++ List.replicate (bs.length - i) (-1)) s.op (.slice (some ⟨gp, 0, none⟩) (s.progs).length cp) vm (.slice (some ⟨go, 0, none⟩) (m + 1) co) p.w := fun p => p.ok
                              have HSTA := Lib.hid hSTA
                              clear hSTA
                              go_wp2_with fail
                              have y1 : ∀ p : At S0, p.w.cell? ⟨go, m, none⟩ = some (.int .i64 t) := fun p => by
                                obtain ⟨g', e, _, _, hc⟩ := (HSTA.out p).bld.opAt HTM.out
                                injection e with e
                                injection e with e
                                subst e
                                exact hc
                              have y2 : ∀ p : At S0, p.w.cell? ⟨sb, so + t * 11 + 10, none⟩ = some (.int .i64 (nOf bs t)) := fun p => blk_n (HSRC.out p.w (HSTA.out p).bel) (by omega)
                              have y3 : ∀ p : At S0, p.w.cell? ⟨wy.heap.size, 10, none⟩ = some (.int .i64 b.n) := fun p => (HSTA.out p).blk.cell' 10 rfl
                              clear_value S0
                              refine wp_region_at S0 (by kernel_rfl) (by kernel_rfl) hs ?_
                              repeat go_big_quiet_step (fail)
                              refine wpQuiet_nil ?_
                              rintro _ ⟨p, rfl⟩
                              have HX5 := Lib.hid (HSTA.out p)
                              clear HSTA HX n0 n1 n6
                              clear y1 y2 y3
                              generalize p.w = wx at *
                              have HX := HX5
                              have T3 := Lib.hid (T1.out.below HX.out.bel)
                              have r0 := (T3.out).r.cell 0
                              have r1 := (T3.out).r.cell 1
                              have r2 := (T3.out).r.cell 2
                              have s0 := (T3.out).r.frozen 0
                              have s1 := (T3.out).r.frozen 1
                              have s2 := (T3.out).r.frozen 2
                              have n0 := (T3.out).n.cell 0
                              have n1 := (T3.out).n.cell 1
                              have n2 := (T3.out).n.cell 2
                              go_wp2_with fail
                              refine bodyPost_ret (v := .tuple #[libV 0 0 0 none 0 none 0 none 0, .int .i64 i, .int .i64 11]) (by simp [results, Try.results23, go_sem, libV, r0, r1, r2]) rfl ?_
                              exact LibPost.err HE.out (((T3.out.bel.setCell (by simp) _).setCell (by simp) _).setCell (by simp) _) rfl
                        · have k5 : (b.kind == 5) = false := by simpa using h5
                          have HSTEP := Lib.hid (show stepB bs b i s = .ok ⟨s.progs, s.mate ++ [-1], s.op⟩ by
                            unfold stepB
                            rw [if_neg (by omega), if_neg (by omega), HDL.out, if_neg (by decide), if_neg h4, if_neg h5, HPB.out])
                          have HR2 := Lib.hid (run_step_ok HR.out HB.out HSTEP.out)
                          have HMS := Lib.hid (mm_succ s.mate hlt)
                          clear h4 h5 h6 hlab
                          go_wp2_with fail
                          go_roundw
                          case rel => exact ⟨i + 1, by omega, by go_num, _, HR2.out, _, _, by rw [HMS.out]; exact HX.out.bld, HX.out.bel⟩
                          case measure => simp [intOf]; omega
            · obtain rfl : i = bs.length := by omega
              have d1 : decide (bs.length < bs.length) = false := by simp
              have hfin : buildB bs = if s.op = [] then .ok s else .err (topOf s.op) 11 := by rw [HBU.out, HR.out]
              obtain ⟨lo, co, rfl⟩ := own_form hbd.op
              have T2 := Lib.hid (T1.out.below BX.out)
              have HFIN := Lib.hid hfin
              clear hr hok hbx hfin
              by_cases hop : s.op = []
              · have hl0 : s.op.length = 0 := by rw [hop]; rfl
                have HL0 := Lib.hid hl0
                have HE := Lib.hid (show buildB bs = .ok s by rw [HFIN.out, if_pos hop])
                obtain ⟨am, cm, e, hrm, hcm⟩ := RowAt.of_own hbd.mate (fun _ _ => rfl)
                subst e
                obtain ⟨ap, cp, e, hrp, hcp⟩ := RowAt.of_own hbd.progs (fun _ _ => rfl)
                subst e
                have hM0 : s.mate ++ List.replicate (bs.length - bs.length) (-1) = s.mate := by simp
                have hML : s.mate.length = bs.length := HOK.out.mate
                rw [hM0] at hrm hcm hbd
                have HRM := Lib.hid hrm
                have HRP := Lib.hid hrp
                have HCM := Lib.hid hcm
                have HCP := Lib.hid hcp
                have HML := Lib.hid hML
                have HBD2 := Lib.hid hbd
                have l0 := hbd.blk.cell 0
                have l1 := hbd.blk.cell 1
                have l2 := hbd.blk.cell 2
                have r0 := (T2.out).r.cell 0
                have r1 := (T2.out).r.cell 1
                have r2 := (T2.out).r.cell 2
                have s0 := (T2.out).r.frozen 0
                have s1 := (T2.out).r.frozen 1
                have s2 := (T2.out).r.frozen 2
                have n0 := (T2.out).n.cell 0
                have n1 := (T2.out).n.cell 1
                have n2 := (T2.out).n.cell 2
                rw [hl0]
                clear hop hl0 hrm hrp hcm hcp hM0 hML hbd HBD
                go_wp2_with fail
                refine bodyPost_ret (v := .tuple #[libV bs.length s.progs.length s.mate.length ab cb ap cp am cm, .int .i64 bs.length, .int .i64 0]) (by simp [results, Try.results23, go_sem, libV, r0, r1, r2]) rfl ?_
                have hR : w.heap.size < W1.heap.size := T1.out.r.lt
                have hWy : W1.heap.size ≤ wy.heap.size := BX.out.size
                have hk : ∀ u v z : Value, ∀ g, g ≠ w.heap.size → (((wy.setCell ⟨w.heap.size, 0, none⟩ u).setCell ⟨w.heap.size, 1, none⟩ v).setCell ⟨w.heap.size, 2, none⟩ z).heap[g]? = wy.heap[g]? := fun u v z g hg =>
                  (Below.heap_setCell _ ⟨w.heap.size, 2, none⟩ z g hg).trans ((Below.heap_setCell _ ⟨w.heap.size, 1, none⟩ v g hg).trans (Below.heap_setCell _ ⟨w.heap.size, 0, none⟩ u g hg))
                refine LibPost.ok HE.out (ap := ap) (am := am) (cp := cp) (cm := cm) (ab := ab) (cb := cb) (pl := plb) ?_ (((T2.out.bel.setCell (by simp) _).setCell (by simp) _).setCell (by simp) _) rfl
                have hnil : ∀ {p : Nat → Prop} {W : World} {T C n f}, RowAt p W T C n f none → n = 0 := fun h => by
                  rcases h with h | ⟨g, e', _⟩
                  · exact h
                  · cases e'
                have hwr : wr.heap.size < W1.heap.size ∨ True := .inr trivial
                have hbls : BlksP (fun g => w.heap.size < g ∧ g < W1.heap.size) W1 bs ab cb plb := HBL.out.imp fun g hg hl => ⟨by have := HTW.out.r.lt; omega, hl⟩
                refine ⟨(hbls.keep fun g hg hl => (hk _ _ _ g (by omega)).trans (BX.out.block g hg.2)).imp fun g hg _ => by omega,
                  (HRP.out.keep fun g hg hl => hk _ _ _ g (by omega)).imp fun g hg _ => by omega, (HRM.out.keep fun g hg hl => hk _ _ _ g (by omega)).imp fun g hg _ => by omega,
                  fun e => hnil (e ▸ HRP.out), fun e => hnil (e ▸ HRM.out), by have := HCP.out; have := HCM.out; omega⟩
              · have HE := Lib.hid (show buildB bs = .err (topOf s.op) 11 by rw [HFIN.out, if_neg hop])
                obtain ⟨m, hm⟩ : ∃ m, s.op.length = m + 1 := by
                  cases h : s.op.length with
                  | zero => exact absurd (List.length_eq_zero_iff.1 h) hop
                  | succ m => exact ⟨m, rfl⟩
                have htm : s.op[m]? = some (topOf s.op) := by
                  have := topOf_at hop
                  rw [hm] at this
                  simpa using this
                obtain ⟨go, rfl, hgo1, hgo2, _⟩ := hbd.opAt htm
                have hmn : m < bs.length := by have := HOK.out.few; omega
                have HTM := Lib.hid htm
                have HM := Lib.hid hm
                rw [hm]
                generalize topOf s.op = t at *
                clear hop hm htm hbd
                go_wp2_with fail
                have hS0 : wy.drew.cell? ⟨go, m, none⟩ = some (.int .i64 t) ∧ wy.drew.cell? ⟨(w.heap.size + 1), 0, none⟩ = some (.slice none 0 0) ∧ wy.drew.cell? ⟨(w.heap.size + 1), 1, none⟩ = some (.slice none 0 0) ∧ wy.drew.cell? ⟨(w.heap.size + 1), 2, none⟩ = some (.slice none 0 0) := by
                  obtain ⟨g', e, _, _, hc⟩ := HBD.out.opAt HTM.out
                  injection e with e
                  injection e with e
                  subst e
                  exact ⟨hc, T2.out.n.cell' 0 rfl, T2.out.n.cell' 1 rfl, T2.out.n.cell' 2 rfl⟩
                have hset : ∀ u v z : Value, ∀ W, W = ((wy.drew.setCell ⟨w.heap.size, 0, none⟩ u).setCell ⟨w.heap.size, 1, none⟩ v).setCell ⟨w.heap.size, 2, none⟩ z → (W.cell? ⟨go, m, none⟩ = some (.int .i64 t) ∧ W.cell? ⟨(w.heap.size + 1), 0, none⟩ = some (.slice none 0 0) ∧ W.cell? ⟨(w.heap.size + 1), 1, none⟩ = some (.slice none 0 0) ∧ W.cell? ⟨(w.heap.size + 1), 2, none⟩ = some (.slice none 0 0)) := fun u v z W e => by
                  subst e
                  exact ⟨cell_set3 (by show go ≠ _; have := T1.out.r.lt; omega) hS0.1, cell_set3 (by show (w.heap.size + 1) ≠ _; omega) hS0.2.1, cell_set3 (by show (w.heap.size + 1) ≠ _; omega) hS0.2.2.1, cell_set3 (by show (w.heap.size + 1) ≠ _; omega) hS0.2.2.2⟩
                have HSET := Lib.hid hset
                have r0 := T2.out.r.cell 0
                have r1 := T2.out.r.cell 1
                have r2 := T2.out.r.cell 2
                have s0 := T2.out.r.frozen 0
                have s1 := T2.out.r.frozen 1
                have s2 := T2.out.r.frozen 2
                have m0 : (0 : Int) ≤ (m : Int) := by omega
                have m1 : (m : Int) < (m : Int) + 1 := by omega
                clear hset
                refine region_L (fun W => W.cell? ⟨go, m, none⟩ = some (.int .i64 t) ∧ W.cell? ⟨(w.heap.size + 1), 0, none⟩ = some (.slice none 0 0) ∧ W.cell? ⟨(w.heap.size + 1), 1, none⟩ = some (.slice none 0 0) ∧ W.cell? ⟨(w.heap.size + 1), 2, none⟩ = some (.slice none 0 0)) [] (by kernel_rfl) ?_
                refine take_L 0 (v := .agg #[.slice none 0 0, .slice none 0 0, .slice none 0 0]) rfl (by kernel_rfl) (by kernel_rfl) (by kernel_rfl) (by kernel_rfl) (fun _ _ _ h => h) rfl (fun W' hW' => by obtain ⟨e0, e1, e2, e3⟩ := hW'; go_simp) hS0 ?_
                refine take_P 1 (v := .slice (some ⟨go, 0, none⟩) (m + 1) co) rfl (by kernel_rfl) (by kernel_rfl) (by kernel_rfl) (fun _ _ _ h => h) rfl (fun W' => by go_simp) ?_
                refine take_P 2 (v := .slice (some ⟨go, 0, none⟩) (m + 1) co) rfl (by kernel_rfl) (by kernel_rfl) (by kernel_rfl) (fun _ _ _ h => h) rfl (fun W' => by go_simp) ?_
                refine take_P 3 (v := .int .i64 (m + 1)) rfl (by kernel_rfl) (by kernel_rfl) (by kernel_rfl) (fun _ _ _ h => h) rfl (fun W' => by go_simp) ?_
                refine take_P 4 (v := .int .i64 m) rfl (by kernel_rfl) (by kernel_rfl) (by kernel_rfl) (fun _ _ _ h => h) rfl (fun W' => by have e4 : IntKind.i64.wrap (m : Int) = m := IntWalk.i64_in _ (by omega); go_simp) ?_
                refine take_P 5 (v := .pointer (some ⟨go, m, none⟩)) rfl (by kernel_rfl) (by kernel_rfl) (by kernel_rfl) (fun _ _ _ h => h) rfl (fun W' => by go_simp) ?_
                refine take_L 6 (v := .int .i64 t) rfl (by kernel_rfl) (by kernel_rfl) (by kernel_rfl) (by kernel_rfl) (fun _ _ _ h => h) rfl (fun W' hW' => by obtain ⟨e0, e1, e2, e3⟩ := hW'; go_simp) hS0 ?_
                refine one_L 7 (by kernel_rfl) rfl rfl fun K7 hK7 => ?_
                have HK7 := Lib.hid hK7
                clear hK7
                go_simp
                refine HK7.out _ _ (fun _ _ => HSET.out _ _ _ _ rfl) ?_
                refine take_P 8 (v := .int .i64 t) rfl (by kernel_rfl) (by kernel_rfl) (by kernel_rfl) (fun _ _ _ h => h) rfl (fun W' => by go_simp) ?_
                refine take_P 9 (v := .int .i64 11) rfl (by kernel_rfl) (by kernel_rfl) (by kernel_rfl) (fun _ _ _ h => h) rfl (fun W' => by go_simp) ?_
                refine done_L (by kernel_rfl) ?_ _
                clear hS0 HK7
                go_simp
                go_wp2_with fail
                refine bodyPost_ret (v := .tuple #[libV 0 0 0 none 0 none 0 none 0, .int .i64 t, .int .i64 11]) (by simp [results, Try.results23, go_sem, libV, r0, r1, r2]) rfl ?_
                exact LibPost.err HE.out ((((T2.out.bel.setCell (by simp) _).setCell (by simp) _).setCell (by simp) _).drew) rfl
end Go.Proofs.Yteiogjgmedikhaa
