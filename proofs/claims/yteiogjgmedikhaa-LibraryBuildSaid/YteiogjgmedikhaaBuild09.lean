/-
  library.Build.
-/
import Derived.Test.YteiogjgmedikhaaAddF09
import Derived.Test.YteiogjgmedikhaaValid09
import Derived.IntWalk
namespace Go.Proofs.Yteiogjgmedikhaa
open Go Go.RowKit
set_option linter.unusedVariables false

/-- A library in memory. -/
structure LibP (p : Nat → Prop) (W : World) (bs : List BlkL) (P : List (Int × Nat)) (n : Nat) (M : List Int) (ab : Option Addr) (cb : Nat) (pl : Nat → Place) (ap : Option Addr) (cp : Nat) (am : Option Addr) (cm : Nat) : Prop where
  blks : BlksP p W bs ab cb pl
  progs : RowAt p W 55 3 P.length (progC P n) ap
  mate : RowAt p W 3 1 M.length (intC M) am
  nilp : ap = none → P.length = 0
  nilm : am = none → M.length = 0
  most : P.length ≤ cp ∧ cp ≤ 9223372036854775807 ∧ M.length ≤ cm ∧ cm ≤ 9223372036854775807
/-- The value of a library. -/
def libV (nb np nm : Nat) (ab : Option Addr) (cb : Nat) (ap : Option Addr) (cp : Nat) (am : Option Addr) (cm : Nat) : Value := .agg #[.slice ab nb cb, .slice ap np cp, .slice am nm cm]
/-- What Build returns. -/
def LibPost (bs : List BlkL) (w : World) (e : Ending) (w' : World) : Prop :=
  match buildB bs with
  | .err a c => e = .returned (.tuple #[libV 0 0 0 none 0 none 0 none 0, .int .i64 (a : Nat), .int .i64 c]) ∧ Below w.heap.size w w'
  | .ok s => ∃ ab cb pl ap cp am cm, e = .returned (.tuple #[libV bs.length s.progs.length s.mate.length ab cb ap cp am cm, .int .i64 bs.length, .int .i64 0]) ∧ LibP (fun g => w.heap.size ≤ g) w' bs s.progs bs.length s.mate ab cb pl ap cp am cm ∧ Below w.heap.size w w'
theorem LibPost.err {bs : List BlkL} {w w' : World} {a : Nat} {c : Int} (h : buildB bs = .err a c) (hb : Below w.heap.size w w') {x : Ending} (hx : x = .returned (.tuple #[libV 0 0 0 none 0 none 0 none 0, .int .i64 (a : Nat), .int .i64 c])) : LibPost bs w x w' := by
  subst hx; unfold LibPost; rw [h]; exact ⟨rfl, hb⟩
theorem LibPost.ok {bs : List BlkL} {w w' : World} {s : StL} (h : buildB bs = .ok s) {ab ap am : Option Addr} {cb cp cm : Nat} {pl : Nat → Place} (hl : LibP (fun g => w.heap.size ≤ g) w' bs s.progs bs.length s.mate ab cb pl ap cp am cm) (hb : Below w.heap.size w w')
    {x : Ending} (hx : x = .returned (.tuple #[libV bs.length s.progs.length s.mate.length ab cb ap cp am cm, .int .i64 bs.length, .int .i64 0])) : LibPost bs w x w' := by
  subst hx; unfold LibPost; rw [h]; exact ⟨ab, cb, pl, ap, cp, am, cm, rfl, hl, hb⟩
theorem makeProg (w : World) : (Instr.makeSlice 40 (.int .i64 1) (.int .i64 1)).run Try.prog w = .ok (.slice (some ⟨w.heap.size, 0, none⟩) 1 1) (w.alloc (.cells #[.int .i64 0, .int .i64 0, .int .i64 0] 55)) := by
  obtain ⟨i0, hi, hz0, hz1, hz2⟩ := info_parts infoProg
  have := run_makeSlice w 40 55 i0 _ Try.underlying40 hi hz0 .i64 .i64 1 1 (by omega) (by omega) (by rw [hz1]; decide) (by rw [hz2]; decide) (by omega)
  rw [this, hz1]
  congr 2
  exact congrArg (Obj.cells · 55) (by kernel_rfl)
theorem step_err {bs : List BlkL} {b : BlkL} {i : Nat} {s : StL} {a : Nat} {c : Int} (h : stepB bs b i s = .err a c) : c = 7 ∨ c = 11 := by
  unfold stepB at h
  repeat' split at h
  all_goals first | (cases h; done) | (injection h with _ h; subst h; simp)
theorem run_step_err {bs : List BlkL} {b : BlkL} {i : Nat} {s : StL} {a : Nat} {c : Int} (hr : runB bs i = .ok s) (hb : bs[i]? = some b) (h : stepB bs b i s = .err a c) : runB bs bs.length = .err a c := by
  have hi : i < bs.length := (List.getElem?_eq_some_iff.1 hb).1
  have h1 : runB bs (i + 1) = .err a c := by
    show (match runB bs i with | .err a e => Res.err a e | .ok s => match bs[i]? with | some b => stepB bs b i s | none => .ok s) = _
    rw [hr]
    simp only [hb]
    exact h
  have := runB_err h1 (bs.length - (i + 1))
  rwa [show i + 1 + (bs.length - (i + 1)) = bs.length by omega] at this
theorem run_step_ok {bs : List BlkL} {b : BlkL} {i : Nat} {s s' : StL} (hr : runB bs i = .ok s) (hb : bs[i]? = some b) (h : stepB bs b i s = .ok s') : runB bs (i + 1) = .ok s' := by
  show (match runB bs i with | .err a e => Res.err a e | .ok s => match bs[i]? with | some b => stepB bs b i s | none => .ok s) = _
  rw [hr]
  simp only [hb]
  exact h
theorem bld_start (W : World) : BldSome W.heap.size (W.heap.size + 1 + 1 + 1) [(0, 0)] [] [] [] [] ((((W.alloc (.cells #[.int .i64 0, .int .i64 0, .int .i64 0] 55)).alloc (.map #[] 0)).alloc (.map #[] 0)).alloc (.cells #[.slice (some ⟨W.heap.size, 0, none⟩) 1 1, .slice none 0 0, .slice none 0 0, .map (some (W.heap.size + 1)), .map (some (W.heap.size + 1 + 1))] 69)) := by
  have e1 : (W.alloc (.cells #[.int .i64 0, .int .i64 0, .int .i64 0] 55)).heap.size = W.heap.size + 1 := by simp
  have e2 : ((W.alloc (.cells #[.int .i64 0, .int .i64 0, .int .i64 0] 55)).alloc (.map #[] 0)).heap.size = W.heap.size + 1 + 1 := by simp
  have e3 : (((W.alloc (.cells #[.int .i64 0, .int .i64 0, .int .i64 0] 55)).alloc (.map #[] 0)).alloc (.map #[] 0)).heap.size = W.heap.size + 1 + 1 + 1 := by simp
  have hp := (((Blk.new W 55 #[.int .i64 0, .int .i64 0, .int .i64 0]).alloc (.map #[] 0)).alloc (.map #[] 0)).alloc (.cells #[.slice (some ⟨W.heap.size, 0, none⟩) 1 1, .slice none 0 0, .slice none 0 0, .map (some (W.heap.size + 1)), .map (some (W.heap.size + 1 + 1))] 69)
  have hn := SetAt.new (W.alloc (.cells #[.int .i64 0, .int .i64 0, .int .i64 0] 55))
  have hl := SetAt.new ((W.alloc (.cells #[.int .i64 0, .int .i64 0, .int .i64 0] 55)).alloc (.map #[] 0))
  have hS := Blk.new (((W.alloc (.cells #[.int .i64 0, .int .i64 0, .int .i64 0] 55)).alloc (.map #[] 0)).alloc (.map #[] 0)) 69 #[.slice (some ⟨W.heap.size, 0, none⟩) 1 1, .slice none 0 0, .slice none 0 0, .map (some (W.heap.size + 1)), .map (some (W.heap.size + 1 + 1))]
  rw [e1] at hn
  rw [e2] at hl
  rw [e3] at hS
  refine ⟨.slice (some ⟨W.heap.size, 0, none⟩) 1 1, .slice none 0 0, .slice none 0 0, W.heap.size + 1, W.heap.size + 1 + 1, hS, ?_, World.ownsRow_nil _ _ _ _, World.ownsRow_nil _ _ _ _, (fun q h => by cases h), ?_, ?_, by omega, by omega, by omega, by omega⟩
  · exact ⟨by rfl, .inr ⟨W.heap.size, 1, _, rfl, Nat.le_refl _, hp, Nat.le_refl _, by decide, by rfl, rfl⟩⟩
  · exact (hn.grown (grown_alloc (World.grownBy_alloc _ _ none) _) (by simp))
  · exact (hl.grown (World.grownBy_alloc _ _ none) (by simp))
theorem build_bad {bs : List BlkL} {i : Nat} {b : BlkL} (hlen : bs.length ≤ 2000) (h : ∀ (j : Nat) (b : BlkL), j < i → bs[j]? = some b → validB b = true) (hb : bs[i]? = some b) (hv : validB b = false) : buildB bs = .err i 1 := by
  have e := badB_eq h hb hv
  have hi : i < bs.length := (List.getElem?_eq_some_iff.1 hb).1
  unfold buildB
  rw [if_neg (by omega), if_pos (by omega), e]
theorem build_run {bs : List BlkL} (hlen : bs.length ≤ 2000) (h : ∀ (j : Nat) (b : BlkL), bs[j]? = some b → validB b = true) :
    buildB bs = match runB bs bs.length with | .err a e => .err a e | .ok s => if s.op = [] then .ok s else .err (topOf s.op) 11 := by
  unfold buildB
  rw [if_neg (by omega), if_neg (by have := badB_all h; omega)]
  rfl

set_option maxRecDepth 100000 in
set_option maxHeartbeats 4000000 in
theorem build_big (bs : List BlkL) (a : Option Addr) (cap : Nat) (w : World) (hlen : 2000 < bs.length) (hc : bs.length ≤ 9223372036854775807) : Calls Try.prog 21 #[.slice a bs.length cap] w (LibPost bs w) := by
  have HB := Lib.hid (show buildB bs = .err 0 10 from if_pos hlen)
  have d1 : decide (2000 < (bs.length : Int)) = true := decide_eq_true (by omega)
  have R0 := Lib.hid (Blk.new w 42 #[.slice none 0 0, .slice none 0 0, .slice none 0 0])
  have bel := Lib.hid ((Below.refl w.heap.size w).alloc (Nat.le_refl _) (.cells #[.slice none 0 0, .slice none 0 0, .slice none 0 0] 42))
  clear hlen
  go_enter Try.func21, Try.ntmps21
  go_wp2_with fail
  refine bodyPost_ret (v := .tuple #[libV 0 0 0 none 0 none 0 none 0, .int .i64 0, .int .i64 10]) (by simp [results, Try.results21, go_sem, libV]) rfl ?_
  exact LibPost.err HB.out bel.out rfl
set_option maxRecDepth 100000 in
set_option maxHeartbeats 4000000 in
theorem build_any (bs : List BlkL) (a : Option Addr) (cap : Nat) (pl : Nat → Place) (w : World) (h : BlksAt w bs a cap pl) : Calls Try.prog 21 #[.slice a bs.length cap] w (LibPost bs w) := by
  by_cases hlen : 2000 < bs.length
  · exact build_big bs a cap w hlen (by have := h.most; omega)
  have hlen : bs.length ≤ 2000 := by omega
  have H := Lib.hid h
  have HLEN := Lib.hid hlen
  have d0 : decide (2000 < (bs.length : Int)) = false := decide_eq_false (by omega)
  have R0 := Lib.hid (Blk.new w 42 #[.slice none 0 0, .slice none 0 0, .slice none 0 0])
  have bel0 := Lib.hid ((Below.refl w.heap.size w).alloc (Nat.le_refl _) (.cells #[.slice none 0 0, .slice none 0 0, .slice none 0 0] 42))
  clear h
  go_enter Try.func21, Try.ntmps21
  go_wp2_with fail
  go_loopw [18] (fun s1 wr => ∃ i : Nat, i ≤ bs.length ∧ s1 = .int .i64 i ∧ (∀ (j : Nat) (b : BlkL), j < i → bs[j]? = some b → validB b = true) ∧ Blk wr w.heap.size 42 #[.slice none 0 0, .slice none 0 0, .slice none 0 0] ∧ Below w.heap.size w wr) (fun s1 _ => bs.length - (intOf s1).toNat)
  case atStart => exact ⟨0, by omega, rfl, fun j b h => by omega, R0.out, bel0.out⟩
  case round =>
    obtain ⟨i, hi, rfl, hall, hbk, bel⟩ := hrel
    have HA := Lib.hid hall
    have BEL := Lib.hid bel
    have HBK := Lib.hid hbk
    have i0 : (0 : Int) ≤ (i : Int) := by omega
    clear hall
    by_cases hlt : i < bs.length
    · have d1 : decide (i < bs.length) = true := by simpa using hlt
      have i1 : (i : Int) < (bs.length : Int) := by omega
      have hb : bs[i]? = some bs[i] := List.getElem?_eq_getElem hlt
      generalize bs[i] = b at hb
      obtain ⟨hl, sb, so, rfl, hsb, hcc⟩ := H.out.tab i hlt
      have r0 : wr.rangeAt sb (so + i * 11) (blkC b (pl i)) := fun j v hv => by
        rw [bel.cell (p := ⟨sb, so + i * 11 + j, none⟩) hsb, hcc j (by have := (List.getElem?_eq_some_iff.1 hv).1; simpa [blkC] using this), blksC_at hb]
        exact hv
      have KV := Lib.hid (fun W (hW : Below w.heap.size w W) => valid_any b (pl i) W ((H.out.blk i b hb).under hW))
      have HB := Lib.hid hb
      have SN := store_newB wr (blkC b (pl i)) rfl blkC_one
      have BN : (wr.alloc (.cells (blkC b (pl i)).toArray 37)).heap[wr.heap.size]? = some (.cells (blkC b (pl i)).toArray 37 (0, 0)) := Blk.new wr 37 _
      have K1 := Lib.hid (show Keeps w.heap.size w w.heap.size 42 #[.slice none 0 0, .slice none 0 0, .slice none 0 0] (wr.alloc (.cells (blkC b (pl i)).toArray 37)) from (Keeps.mk hbk bel bel.size).alloc _)
      clear hl hcc hb hsb hbk bel
      go_wp2_with (first
        | ((with_reducible refine wpList_load_mid (P := Try.prog) rfl 37 (.tmp 21) rfl sb (so + i * 11) rfl (blkC b (pl i)) _ r0 Try.underlying37 rfl (by kernel_rfl) ?_))
        | ((with_reducible refine go_load_row 37 (.tmp 6) wr.heap.size 37 (blkC b (pl i)).toArray _ rfl BN Try.underlying37 rfl (by kernel_rfl) ?_)))
      refine (KV.out _ K1.out.bel).mono ?_
      rintro e w2 ⟨rfl, b2⟩
      have K2 := Lib.hid (K1.out.below b2)
      clear b2 SN BN r0
      cases hv : validB b with
      | true =>
        go_wp2_with fail
        go_roundw
        case rel => exact ⟨i + 1, by omega, by go_num, fun j b' hj hb' => by
          by_cases e : j = i
          · subst e
            rw [HB.out] at hb'
            injection hb' with hb'
            rw [← hb']
            exact hv
          · exact HA.out j b' (by omega) hb', K2.out.blk, K2.out.bel⟩
        case measure => simp [intOf]; omega
      | false =>
        have HR := Lib.hid (build_bad HLEN.out HA.out HB.out hv)
        clear hv
        have r0 := K2.out.blk.cell 0
        have r1 := K2.out.blk.cell 1
        have r2 := K2.out.blk.cell 2
        have s0 := K2.out.blk.frozen 0
        have s1 := K2.out.blk.frozen 1
        have s2 := K2.out.blk.frozen 2
        go_wp2_with fail
        refine bodyPost_ret (v := .tuple #[libV 0 0 0 none 0 none 0 none 0, .int .i64 i, .int .i64 1]) (by simp [results, Try.results21, go_sem, libV, r0, r1, r2]) rfl ?_
        exact LibPost.err HR.out (((K2.out.bel.setCell (by simp) _).setCell (by simp) _).setCell (by simp) _) rfl
    · obtain rfl : i = bs.length := by omega
      have d1 : decide (bs.length < bs.length) = false := by simp
      have HV := Lib.hid (fun (j : Nat) (b : BlkL) (hb : bs[j]? = some b) => HA.out j b (List.getElem?_eq_some_iff.1 hb).1 hb)
      have HBU := Lib.hid (build_run HLEN.out HV.out)
      have mk := makeProg wr
      have mm1 := @run_makeMap Try.prog 67 (wr.alloc (.cells #[.int .i64 0, .int .i64 0, .int .i64 0] 55))
      have mm2 := @run_makeMap Try.prog 67 ((wr.alloc (.cells #[.int .i64 0, .int .i64 0, .int .i64 0] 55)).alloc (.map #[] 0))
      clear hbk bel
      go_wp2_with fail
      rename World => W0
      have HS0 := Lib.hid (bld_start W0)
      have b01 : Below W0.heap.size W0 ((((W0.alloc (.cells #[.int .i64 0, .int .i64 0, .int .i64 0] 55)).alloc (.map #[] 0)).alloc (.map #[] 0)).alloc (.cells #[.slice (some ⟨W0.heap.size, 0, none⟩) 1 1, .slice none 0 0, .slice none 0 0, .map (some (W0.heap.size + 1)), .map (some (W0.heap.size + 1 + 1))] 69)) :=
        ((((Below.refl _ _).alloc (Nat.le_refl _) _).alloc (by simp) _).alloc (by simp; omega) _).alloc (by simp; omega) _
      have B01 := Lib.hid b01
      clear mk mm1 mm2 b01
      have HSRC : ∀ W, Below W0.heap.size W0 W → BlksAt W bs a cap pl := fun W hW => H.out.under (BEL.out.trans (hW.mono BEL.out.size))
      have HSRC := Lib.hid HSRC
      go_loopw [36] (fun s1 wr => ∃ i : Nat, i ≤ bs.length ∧ s1 = .int .i64 i ∧ ∃ s, runB bs i = .ok s ∧ BldSome W0.heap.size (W0.heap.size + 1 + 1 + 1) s.progs s.mate s.op (numsOf s.progs) (labelsOf bs (lastFirst s.progs) i) wr ∧ Below W0.heap.size W0 wr) (fun s1 _ => bs.length - (intOf s1).toNat)
      case atStart => exact ⟨0, by omega, rfl, _, rfl, HS0.out, B01.out⟩
      case round =>
        rename World => wx
        obtain ⟨i, hi, rfl, s, hr, hbs, hbx⟩ := hrel
        have HR := Lib.hid hr
        have BX := Lib.hid hbx
        have i0 : (0 : Int) ≤ (i : Int) := by omega
        have hok := runB_ok HV.out i s hi hr
        have HOK := Lib.hid hok
        by_cases hlt : i < bs.length
        · have d1 : decide (i < bs.length) = true := by simpa using hlt
          have i1 : (i : Int) < (bs.length : Int) := by omega
          have hb : bs[i]? = some bs[i] := List.getElem?_eq_getElem hlt
          generalize bs[i] = b at hb
          have HB := Lib.hid hb
          have KA := Lib.hid (add_any bs a cap pl W0.heap.size (W0.heap.size + 1 + 1 + 1) i b s wx (fun W h1 _ => HSRC.out W (hbx.trans h1)) hbx.size hb HV.out hok HLEN.out hbs)
          clear hr hok hbs hbx hb
          go_wp2_with fail
          refine KA.out.mono ?_
          intro e w2 hp
          unfold AddPost at hp
          cases hs : stepB bs b i s with
          | err at' c =>
            rw [hs] at hp
            obtain ⟨rfl, b2⟩ := hp
            have hc : (c != 0) = true := by rcases step_err hs with rfl | rfl <;> rfl
            have HE := Lib.hid (show buildB bs = .err at' c by rw [HBU.out, run_step_err HR.out HB.out hs])
            have K2 := Lib.hid ((Keeps.mk HBK.out BEL.out BEL.out.size : Keeps w.heap.size w w.heap.size 42 #[.slice none 0 0, .slice none 0 0, .slice none 0 0] W0).below (BX.out.trans b2))
            have r0 := K2.out.blk.cell 0
            have r1 := K2.out.blk.cell 1
            have r2 := K2.out.blk.cell 2
            have s0 := K2.out.blk.frozen 0
            have s1 := K2.out.blk.frozen 1
            have s2 := K2.out.blk.frozen 2
            clear hs b2
            go_wp2_with fail
            refine bodyPost_ret (v := .tuple #[libV 0 0 0 none 0 none 0 none 0, .int .i64 at', .int .i64 c]) (by simp [results, Try.results21, go_sem, libV, r0, r1, r2]) rfl ?_
            exact LibPost.err HE.out (((K2.out.bel.setCell (by simp) _).setCell (by simp) _).setCell (by simp) _) rfl
          | ok s' =>
            rw [hs] at hp
            obtain ⟨rfl, b2, hbs2⟩ := hp
            have HR2 := Lib.hid (run_step_ok HR.out HB.out hs)
            have HBS := Lib.hid hbs2
            have B2 := Lib.hid (BX.out.trans b2)
            clear hs b2 hbs2
            go_wp2_with fail
            go_roundw
            case rel => exact ⟨i + 1, by omega, by go_num, s', HR2.out, HBS.out, B2.out⟩
            case measure => simp [intOf]; omega
        · obtain rfl : i = bs.length := by omega
          have d1 : decide (bs.length < bs.length) = false := by simp
          have hfin : buildB bs = if s.op = [] then .ok s else .err (topOf s.op) 11 := by rw [HBU.out, HR.out]
          have HFIN := Lib.hid hfin
          obtain ⟨vp, vm, vo, bn, bl, hbd⟩ := hbs
          obtain ⟨lo, co, rfl⟩ := own_form hbd.op
          have K2 := Lib.hid ((Keeps.mk HBK.out BEL.out BEL.out.size : Keeps w.heap.size w w.heap.size 42 #[.slice none 0 0, .slice none 0 0, .slice none 0 0] W0).below BX.out)
          have HBD := Lib.hid hbd
          have f2 := hbd.blk.cell 2
          have hbw := BEL.out.size
          have hRS : w.heap.size ≠ (W0.heap.size + 1 + 1 + 1) := by omega
          have HRS := Lib.hid hRS
          clear hr hok hbx hfin hbd hRS
          by_cases hop : s.op = []
          · have hl0 : s.op.length = 0 := by rw [hop]; rfl
            rw [hl0] at f2
            have HE := Lib.hid (show buildB bs = .ok s by rw [HFIN.out, if_pos hop])
            clear hop hl0
            obtain ⟨q, hq⟩ : ∃ q, s.progs.length = q + 1 := by
              obtain ⟨r, e, _, _⟩ := HOK.out.progs
              exact ⟨r.length, by rw [e]; rfl⟩
            have hqi : q ≤ bs.length := by
              obtain ⟨r, e, h1, _⟩ := HOK.out.progs
              rw [e] at hq
              simp at hq
              omega
            obtain ⟨gp, cp, rfl, hgp1, hgp2, hcel, hfro⟩ := HBD.out.progAt (k := q) (by omega)
            have HEND := Lib.hid ((HBD.out.under (Below.refl _ _).drew).endSet (by intro e; rw [e] at hq; cases hq) rfl bs.length)
            have c9 : wx.drew.cell? ⟨gp, q * 3 + 2, none⟩ = some (.int .i64 0) := by
              have := hcel 2 (by decide)
              have e2 : ¬ q + 1 < s.progs.length := by omega
              simp only [progC, e2, if_false] at this
              exact this
            have z9 : wx.drew.frozen? ⟨gp, q * 3 + 2, none⟩ = false := hfro _
            have hvq := HBD.out.blk
            rw [hq] at hvq
            have HVQ := Lib.hid hvq
            have HQ := Lib.hid hq
            clear hcel hfro hvq hq
            go_wp2_with fail
            refine region_L (fun W => W.cell? ⟨(W0.heap.size + 1 + 1 + 1), 0, none⟩ = some (.slice (some ⟨gp, 0, none⟩) (q + 1) cp)) [14] (by kernel_rfl) ?_
            have hS0 : wx.drew.cell? ⟨(W0.heap.size + 1 + 1 + 1), 0, none⟩ = some (.slice (some ⟨gp, 0, none⟩) (q + 1) cp) := HVQ.out.cell' 0 rfl
            have q0 : (0 : Int) ≤ (q : Int) := by omega
            have q1 : (q : Int) < (q : Int) + 1 := by omega
            refine take_P 0 (v := .pointer (some ⟨(W0.heap.size + 1 + 1 + 1), 0, none⟩)) rfl (by kernel_rfl) (by kernel_rfl) (by kernel_rfl) (fun _ _ _ h => h) rfl (fun W' => by go_simp) ?_
            refine take_P 1 (v := .pointer (some ⟨(W0.heap.size + 1 + 1 + 1), 0, none⟩)) rfl (by kernel_rfl) (by kernel_rfl) (by kernel_rfl) (fun _ _ _ h => h) rfl (fun W' => by go_simp) ?_
            refine take_P 2 (v := .pointer (some ⟨(W0.heap.size + 1 + 1 + 1), 0, none⟩)) rfl (by kernel_rfl) (by kernel_rfl) (by kernel_rfl) (fun _ _ _ h => h) rfl (fun W' => by go_simp) ?_
            refine take_L 3 (v := (.slice (some ⟨gp, 0, none⟩) (q + 1) cp)) rfl (by kernel_rfl) (by kernel_rfl) (by kernel_rfl) (by kernel_rfl) (fun _ _ _ h => h) rfl (fun W' hW' => by have e4 := hW'; clear hW'; go_simp) hS0 ?_
            refine take_P 4 (v := .pointer (some ⟨(W0.heap.size + 1 + 1 + 1), 0, none⟩)) rfl (by kernel_rfl) (by kernel_rfl) (by kernel_rfl) (fun _ _ _ h => h) rfl (fun W' => by go_simp) ?_
            refine take_P 5 (v := .pointer (some ⟨(W0.heap.size + 1 + 1 + 1), 0, none⟩)) rfl (by kernel_rfl) (by kernel_rfl) (by kernel_rfl) (fun _ _ _ h => h) rfl (fun W' => by go_simp) ?_
            refine take_P 6 (v := .pointer (some ⟨(W0.heap.size + 1 + 1 + 1), 0, none⟩)) rfl (by kernel_rfl) (by kernel_rfl) (by kernel_rfl) (fun _ _ _ h => h) rfl (fun W' => by go_simp) ?_
            refine take_L 7 (v := (.slice (some ⟨gp, 0, none⟩) (q + 1) cp)) rfl (by kernel_rfl) (by kernel_rfl) (by kernel_rfl) (by kernel_rfl) (fun _ _ _ h => h) rfl (fun W' hW' => by have e4 := hW'; clear hW'; go_simp) hS0 ?_
            refine take_P 8 (v := .int .i64 (q + 1)) rfl (by kernel_rfl) (by kernel_rfl) (by kernel_rfl) (fun _ _ _ h => h) rfl (fun W' => by go_simp) ?_
            refine take_P 9 (v := .int .i64 q) rfl (by kernel_rfl) (by kernel_rfl) (by kernel_rfl) (fun _ _ _ h => h) rfl (fun W' => by have e4 : IntKind.i64.wrap (q : Int) = q := IntWalk.i64_in _ (by omega); go_simp) ?_
            refine take_P 10 (v := .slice a bs.length cap) rfl (by kernel_rfl) (by kernel_rfl) (by kernel_rfl) (fun _ _ _ h => h) rfl (fun W' => by go_simp) ?_
            refine take_P 11 (v := .int .i64 bs.length) rfl (by kernel_rfl) (by kernel_rfl) (by kernel_rfl) (fun _ _ _ h => h) rfl (fun W' => by go_simp) ?_
            refine take_P 12 (v := .pointer (some ⟨gp, q * 3, none⟩)) rfl (by kernel_rfl) (by kernel_rfl) (by kernel_rfl) (fun _ _ _ h => h) rfl (fun W' => by go_simp) ?_
            refine take_P 13 (v := .pointer (some ⟨gp, q * 3 + 2, none⟩)) rfl (by kernel_rfl) (by kernel_rfl) (by kernel_rfl) (fun _ _ _ h => h) rfl (fun W' => by go_simp) ?_
            refine one_L 14 (by kernel_rfl) rfl rfl fun K14 hK14 => ?_
            have HK14 := Lib.hid hK14
            clear hK14
            go_simp
            refine HK14.out _ _ (fun h => absurd h (by decide)) ?_
            refine done_L (by kernel_rfl) ?_ _
            have hst9 := HEND.out
            rw [HQ.out, Nat.add_sub_cancel] at hst9
            have hk9 : Keeps w.heap.size w w.heap.size 42 #[.slice none 0 0, .slice none 0 0, .slice none 0 0] (wx.drew.setCell ⟨gp, q * 3 + 2, none⟩ (.int .i64 bs.length)) :=
              ⟨K2.out.blk.drew.far (p := ⟨gp, q * 3 + 2, none⟩) (by show w.heap.size ≠ gp; have := HBK.out.lt; omega) _, K2.out.bel.drew.setCell (by show w.heap.size ≤ gp; omega) _, by have := K2.out.size; simpa⟩
            have hb9 : Below W0.heap.size W0 (wx.drew.setCell ⟨gp, q * 3 + 2, none⟩ (.int .i64 bs.length)) := BX.out.drew.setCell (by show _ ≤ gp; omega) _
            refine on_told (fun W => BldAt W0.heap.size (W0.heap.size + 1 + 1 + 1) s.progs bs.length s.mate s.op (numsOf s.progs) (labelsOf bs (lastFirst s.progs) bs.length) (.slice (some ⟨gp, 0, none⟩) (q + 1) cp) vm (.slice lo s.op.length co) bn bl W ∧ Keeps w.heap.size w w.heap.size 42 #[.slice none 0 0, .slice none 0 0, .slice none 0 0] W ∧ Below W0.heap.size W0 W) ⟨hst9, hk9, hb9⟩ fun W4 h4 => ?_
            clear hst9 hk9 hb9 c9 z9 hS0 HK14 HEND
            obtain ⟨am, cm, e, hrm, hcm⟩ := RowAt.of_own h4.1.mate (fun _ _ => rfl)
            subst e
            obtain ⟨ap, cp', e, hrp, hcp⟩ := RowAt.of_own h4.1.progs (fun _ _ => rfl)
            have e9 : ap = some ⟨gp, 0, none⟩ ∧ cp' = cp := by
              injection e with e1 _ e3
              exact ⟨e1.symm, e3.symm⟩
            obtain ⟨rfl, rfl⟩ := e9
            have HRM := Lib.hid hrm
            have HRP := Lib.hid hrp
            have hmat := HOK.out.mate
            rw [hmat] at h4
            have H4 := Lib.hid h4
            have HCP := Lib.hid hcp
            have HCM := Lib.hid hcm
            have HMAT := Lib.hid hmat
            have KC := Lib.hid (copyB_any bs a cap pl W4.drew ((HSRC.out _ (h4.2.2.drew))) (fun i b hb => slim_of_valid (HV.out i b hb)) (by omega))
            clear h4 hrm hrp hcm hcp hmat e f2
            go_simp
            go_wp2_with fail
            refine region_L (fun W => W.cell? ⟨(W0.heap.size + 1 + 1 + 1), 0, none⟩ = some (.slice (some ⟨gp, 0, none⟩) (q + 1) cp') ∧ W.cell? ⟨(W0.heap.size + 1 + 1 + 1), 1, none⟩ = some (.slice am bs.length cm)) [13] (by kernel_rfl) ?_
            have hbk4 : Blk W4 (W0.heap.size + 1 + 1 + 1) 69 #[(.slice (some ⟨gp, 0, none⟩) (q + 1) cp'), (.slice am bs.length cm), .slice lo s.op.length co, .map (some bn), .map (some bl)] := by
              exact H4.out.1.blk
            have hS0 : W4.drew.cell? ⟨(W0.heap.size + 1 + 1 + 1), 0, none⟩ = some (.slice (some ⟨gp, 0, none⟩) (q + 1) cp') ∧ W4.drew.cell? ⟨(W0.heap.size + 1 + 1 + 1), 1, none⟩ = some (.slice am bs.length cm) := ⟨hbk4.cell' 0 rfl, hbk4.cell' 1 rfl⟩
            refine take_P 0 (v := .slice a bs.length cap) rfl (by kernel_rfl) (by kernel_rfl) (by kernel_rfl) (fun _ _ _ h => h) rfl (fun W' => by go_simp) ?_
            refine take_P 2 (v := .pointer (some ⟨(W0.heap.size + 1 + 1 + 1), 0, none⟩)) rfl (by kernel_rfl) (by kernel_rfl) (by kernel_rfl) (fun _ _ _ h => h) rfl (fun W' => by go_simp) ?_
            refine take_P 3 (v := .pointer (some ⟨(W0.heap.size + 1 + 1 + 1), 0, none⟩)) rfl (by kernel_rfl) (by kernel_rfl) (by kernel_rfl) (fun _ _ _ h => h) rfl (fun W' => by go_simp) ?_
            refine take_P 4 (v := .pointer (some ⟨(W0.heap.size + 1 + 1 + 1), 0, none⟩)) rfl (by kernel_rfl) (by kernel_rfl) (by kernel_rfl) (fun _ _ _ h => h) rfl (fun W' => by go_simp) ?_
            refine take_L 5 (v := (.slice (some ⟨gp, 0, none⟩) (q + 1) cp')) rfl (by kernel_rfl) (by kernel_rfl) (by kernel_rfl) (by kernel_rfl) (fun _ _ _ h => h) rfl (fun W' hW' => by obtain ⟨e0, e1⟩ := hW'; go_simp) hS0 ?_
            refine take_P 6 (v := .pointer (some ⟨(W0.heap.size + 1 + 1 + 1), 0, none⟩)) rfl (by kernel_rfl) (by kernel_rfl) (by kernel_rfl) (fun _ _ _ h => h) rfl (fun W' => by go_simp) ?_
            refine take_P 7 (v := .pointer (some ⟨(W0.heap.size + 1 + 1 + 1), 0, none⟩)) rfl (by kernel_rfl) (by kernel_rfl) (by kernel_rfl) (fun _ _ _ h => h) rfl (fun W' => by go_simp) ?_
            refine take_P 8 (v := .pointer (some ⟨(W0.heap.size + 1 + 1 + 1), 1, none⟩)) rfl (by kernel_rfl) (by kernel_rfl) (by kernel_rfl) (fun _ _ _ h => h) rfl (fun W' => by go_simp) ?_
            refine take_L 9 (v := (.slice am bs.length cm)) rfl (by kernel_rfl) (by kernel_rfl) (by kernel_rfl) (by kernel_rfl) (fun _ _ _ h => h) rfl (fun W' hW' => by obtain ⟨e0, e1⟩ := hW'; go_simp) hS0 ?_
            refine take_P 11 (v := .slice a bs.length cap) rfl (by kernel_rfl) (by kernel_rfl) (by kernel_rfl) (fun _ _ _ h => h) rfl (fun W' => by go_simp) ?_
            refine take_P 12 (v := .int .i64 bs.length) rfl (by kernel_rfl) (by kernel_rfl) (by kernel_rfl) (fun _ _ _ h => h) rfl (fun W' => by go_simp) ?_
            refine one_L 1 (by kernel_rfl) rfl rfl fun K1 hK1 => ?_
            have HK1 := Lib.hid hK1
            clear hK1
            go_simp
            go_at_call 40
            refine KC.out.mono ?_
            rintro e w5 ⟨ab, cb, plb, rfl, hbl, b5⟩
            have hbk5 := hbk4.drew.below b5 hbk4.lt
            refine HK1.out _ _ (fun _ _ => ⟨hbk5.cell' 0 rfl, hbk5.cell' 1 rfl⟩) ?_
            have K5 := Lib.hid (H4.out.2.1.drew.below b5)
            have r0 := K5.out.blk.cell 0
            have r1 := K5.out.blk.cell 1
            have r2 := K5.out.blk.cell 2
            have s0 := K5.out.blk.frozen 0
            have s1 := K5.out.blk.frozen 1
            have s2 := K5.out.blk.frozen 2
            have HBL := Lib.hid hbl
            have B5 := Lib.hid b5
            clear hbl b5 hbk5 hbk4
            refine take_P 10 (v := .agg #[.slice ab bs.length cb, (.slice (some ⟨gp, 0, none⟩) (q + 1) cp'), (.slice am bs.length cm)]) rfl (by kernel_rfl) (by kernel_rfl) (by kernel_rfl) (fun _ _ _ h => h) rfl (fun W' => by go_simp) ?_
            refine one_L 13 (by kernel_rfl) rfl rfl fun K13 hK13 => ?_
            have HK13 := Lib.hid hK13
            clear hK13
            go_simp
            refine HK13.out _ _ (fun h => absurd h (by decide)) ?_
            refine take_P 14 (v := .int .i64 bs.length) rfl (by kernel_rfl) (by kernel_rfl) (by kernel_rfl) (fun _ _ _ h => h) rfl (fun W' => by go_simp) ?_
            refine take_P 15 (v := .int .i64 0) rfl (by kernel_rfl) (by kernel_rfl) (by kernel_rfl) (fun _ _ _ h => h) rfl (fun W' => by go_simp) ?_
            refine done_L (by kernel_rfl) ?_ _
            clear hS0 HK1 HK13
            go_simp
            go_wp2_with fail
            refine bodyPost_ret (v := .tuple #[libV bs.length (q + 1) bs.length ab cb (some ⟨gp, 0, none⟩) cp' am cm, .int .i64 bs.length, .int .i64 0]) (by simp [results, Try.results21, go_sem, libV, r0, r1, r2]) rfl ?_
            have hR := HBK.out.lt
            have hW4 : W0.heap.size ≤ W4.heap.size := H4.out.2.2.size
            have hk : ∀ u v z : Value, ∀ g, g ≠ w.heap.size → (((w5.setCell ⟨w.heap.size, 0, none⟩ u).setCell ⟨w.heap.size, 1, none⟩ v).setCell ⟨w.heap.size, 2, none⟩ z).heap[g]? = w5.heap[g]? := fun u v z g hg =>
              (Below.heap_setCell _ ⟨w.heap.size, 2, none⟩ z g hg).trans ((Below.heap_setCell _ ⟨w.heap.size, 1, none⟩ v g hg).trans (Below.heap_setCell _ ⟨w.heap.size, 0, none⟩ u g hg))
            have hk4 : ∀ u v z : Value, ∀ g, W0.heap.size ≤ g → g < W4.heap.size → (((w5.setCell ⟨w.heap.size, 0, none⟩ u).setCell ⟨w.heap.size, 1, none⟩ v).setCell ⟨w.heap.size, 2, none⟩ z).heap[g]? = W4.heap[g]? := fun u v z g hg hl =>
              (hk u v z g (by omega)).trans (B5.out.block g hl)
            refine LibPost.ok HE.out (ap := some ⟨gp, 0, none⟩) (am := am) (cp := cp') (cm := cm) (ab := ab) (cb := cb) (pl := plb) ?_ (((K5.out.bel.setCell (by simp) _).setCell (by simp) _).setCell (by simp) _) (by rw [HQ.out, HMAT.out])
            refine ⟨(HBL.out.keep fun g hg _ => hk _ _ _ g (by have : W4.drew.heap.size = W4.heap.size := rfl; omega)).imp fun g hg _ => by have : W4.drew.heap.size = W4.heap.size := rfl; omega,
              (HRP.out.keep fun g hg hl => hk4 _ _ _ g hg hl).imp fun g hg _ => by omega, (HRM.out.keep fun g hg hl => hk4 _ _ _ g hg hl).imp fun g hg _ => by omega, fun e => (by cases e), fun e => ?_, by have := HCP.out; have := HCM.out; omega⟩
            rcases HRM.out with h | ⟨g, e', _⟩
            · exact h
            · rw [e] at e'; cases e'
          · obtain ⟨m, hm⟩ : ∃ m, s.op.length = m + 1 := by
              cases h : s.op.length with
              | zero => exact absurd (List.length_eq_zero_iff.1 h) hop
              | succ m => exact ⟨m, rfl⟩
            have HE := Lib.hid (show buildB bs = .err (topOf s.op) 11 by rw [HFIN.out, if_neg hop])
            have htm : s.op[m]? = some (topOf s.op) := by
              have := topOf_at hop
              rw [hm] at this
              simpa using this
            obtain ⟨go, rfl, hgo1, hgo2, _⟩ := op_at HBD.out htm
            have hmn : m < bs.length := by have := HOK.out.few; omega
            have HTM := Lib.hid htm
            rw [hm] at f2
            have f2' := Lib.hid hm
            generalize topOf s.op = t at *
            clear hop hm htm
            have m0 : (0 : Int) ≤ (m : Int) := by omega
            have m1 : (m : Int) < (m : Int) + 1 := by omega
            go_wp2_with fail
            have hSall : ∀ W, Below wx.heap.size wx W → (W.cell? ⟨(W0.heap.size + 1 + 1 + 1), 2, none⟩ = some (.slice (some ⟨go, 0, none⟩) (m + 1) co) ∧ W.cell? ⟨go, m, none⟩ = some (.int .i64 t)) := fun W hW => by
              have h1 := HBD.out.under hW
              obtain ⟨g', e, _, _, hc⟩ := op_at h1 HTM.out
              injection e with e
              injection e with e
              subst e
              exact ⟨h1.blk.cell' 2 (by simp [f2'.out]), hc⟩
            have HSA := Lib.hid hSall
            clear hSall f2' f2
            have r0 := K2.out.blk.cell 0
            have r1 := K2.out.blk.cell 1
            have r2 := K2.out.blk.cell 2
            have s0 := K2.out.blk.frozen 0
            have s1 := K2.out.blk.frozen 1
            have s2 := K2.out.blk.frozen 2
            have hset : ∀ u v z : Value, ∀ W, W = ((wx.drew.setCell ⟨w.heap.size, 0, none⟩ u).setCell ⟨w.heap.size, 1, none⟩ v).setCell ⟨w.heap.size, 2, none⟩ z → (W.cell? ⟨(W0.heap.size + 1 + 1 + 1), 2, none⟩ = some (.slice (some ⟨go, 0, none⟩) (m + 1) co) ∧ W.cell? ⟨go, m, none⟩ = some (.int .i64 t)) := fun u v z W e => by
              subst e
              have h0 := HSA.out wx (Below.refl _ _)
              have a1 : ∀ (p : Addr) (x : Value) (W : World) (j : Nat) (y : Value), p.block ≠ w.heap.size → W.cell? p = some x → (W.setCell ⟨w.heap.size, j, none⟩ y).cell? p = some x := fun p x W j y hp hx => by
                rw [World.cell?_setCell_other _ _ _ _ (fun e => hp (by rw [← e]))]; exact hx
              exact ⟨a1 _ _ _ _ _ (Ne.symm HRS.out) (a1 _ _ _ _ _ (Ne.symm HRS.out) (a1 _ _ _ _ _ (Ne.symm HRS.out) h0.1)), a1 _ _ _ _ _ (by show go ≠ _; have := HBK.out.lt; omega) (a1 _ _ _ _ _ (by show go ≠ _; have := HBK.out.lt; omega) (a1 _ _ _ _ _ (by show go ≠ _; have := HBK.out.lt; omega) h0.2))⟩
            have HSET := Lib.hid hset
            clear hset
            refine region_L (fun W => W.cell? ⟨(W0.heap.size + 1 + 1 + 1), 2, none⟩ = some (.slice (some ⟨go, 0, none⟩) (m + 1) co) ∧ W.cell? ⟨go, m, none⟩ = some (.int .i64 t)) [] (by kernel_rfl) ?_
            have hS0 := HSA.out wx.drew (Below.refl _ _).drew
            refine take_P 0 (v := .agg #[.slice none 0 0, .slice none 0 0, .slice none 0 0]) rfl (by kernel_rfl) (by kernel_rfl) (by kernel_rfl) (fun _ _ _ h => h) rfl (fun W' => by go_simp) ?_
            refine take_P 1 (v := .pointer (some ⟨(W0.heap.size + 1 + 1 + 1), 0, none⟩)) rfl (by kernel_rfl) (by kernel_rfl) (by kernel_rfl) (fun _ _ _ h => h) rfl (fun W' => by go_simp) ?_
            refine take_P 2 (v := .pointer (some ⟨(W0.heap.size + 1 + 1 + 1), 0, none⟩)) rfl (by kernel_rfl) (by kernel_rfl) (by kernel_rfl) (fun _ _ _ h => h) rfl (fun W' => by go_simp) ?_
            refine take_P 3 (v := .pointer (some ⟨(W0.heap.size + 1 + 1 + 1), 2, none⟩)) rfl (by kernel_rfl) (by kernel_rfl) (by kernel_rfl) (fun _ _ _ h => h) rfl (fun W' => by go_simp) ?_
            refine take_L 4 (v := .slice (some ⟨go, 0, none⟩) (m + 1) co) rfl (by kernel_rfl) (by kernel_rfl) (by kernel_rfl) (by kernel_rfl) (fun _ _ _ h => h) rfl (fun W' hW' => by obtain ⟨e0, e1⟩ := hW'; go_simp) hS0 ?_
            refine take_P 5 (v := .int .i64 (m + 1)) rfl (by kernel_rfl) (by kernel_rfl) (by kernel_rfl) (fun _ _ _ h => h) rfl (fun W' => by go_simp) ?_
            refine take_P 6 (v := .int .i64 m) rfl (by kernel_rfl) (by kernel_rfl) (by kernel_rfl) (fun _ _ _ h => h) rfl (fun W' => by have e4 : IntKind.i64.wrap (m : Int) = m := IntWalk.i64_in _ (by omega); go_simp) ?_
            refine take_P 7 (v := .pointer (some ⟨go, m, none⟩)) rfl (by kernel_rfl) (by kernel_rfl) (by kernel_rfl) (fun _ _ _ h => h) rfl (fun W' => by go_simp) ?_
            refine take_L 8 (v := .int .i64 t) rfl (by kernel_rfl) (by kernel_rfl) (by kernel_rfl) (by kernel_rfl) (fun _ _ _ h => h) rfl (fun W' hW' => by obtain ⟨e0, e1⟩ := hW'; go_simp) hS0 ?_
            refine one_L 9 (by kernel_rfl) rfl rfl fun K9 hK9 => ?_
            have HK9 := Lib.hid hK9
            clear hK9
            go_simp
            refine HK9.out _ _ (fun _ _ => HSET.out _ _ _ _ rfl) ?_
            refine take_P 10 (v := .int .i64 t) rfl (by kernel_rfl) (by kernel_rfl) (by kernel_rfl) (fun _ _ _ h => h) rfl (fun W' => by go_simp) ?_
            refine take_P 11 (v := .int .i64 11) rfl (by kernel_rfl) (by kernel_rfl) (by kernel_rfl) (fun _ _ _ h => h) rfl (fun W' => by go_simp) ?_
            refine done_L (by kernel_rfl) ?_ _
            clear hS0 HK9
            go_simp
            go_wp2_with fail
            refine bodyPost_ret (v := .tuple #[libV 0 0 0 none 0 none 0 none 0, .int .i64 t, .int .i64 11]) (by simp [results, Try.results21, go_sem, libV, r0, r1, r2]) rfl ?_
            exact LibPost.err HE.out ((((K2.out.bel.setCell (by simp) _).setCell (by simp) _).setCell (by simp) _).drew) rfl
end Go.Proofs.Yteiogjgmedikhaa
