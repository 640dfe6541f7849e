/-
  AxisValid returns true. Its arguments: any.
-/
import Derived.Test.YtdopbdcfompodaaValidR
import Derived.Test.YtdopbdcfompodaaTab
namespace Go.Proofs.Ytdopbdcfompodaa
open Go Go.RowKit
set_option linter.unusedVariables false

theorem steps_at {d : Int} : ∀ {l : List Int}, steps d l → ∀ i, 0 < i → i < l.length → -d ≤ l.getD i 0 - l.getD (i - 1) 0 ∧ l.getD i 0 - l.getD (i - 1) 0 ≤ d
  | [], _, i, _, h => by simp at h
  | [_], _, i, h0, h => by simp at h; omega
  | p :: q :: l, hs, 1, _, _ => by simpa using ⟨hs.1, hs.2.1⟩
  | p :: q :: l, hs, i + 2, _, h => by
    have := steps_at (l := q :: l) hs.2.2 (i + 1) (by omega) (by simpa using h)
    simpa using this
theorem good_valid {v : AxisV} (g : v.Good) : validB v.st v.sp v.ac v.je (-16777216) 16777216 v.ba v.og v.sg v.pn (fun i => v.ps.getD i 0) = true := by
  rw [validB_iff]
  refine ⟨by have := g.st; have := g.sp; have := g.ac; have := g.je; have := g.ba; unfold bigP; omega, ?_⟩
  by_cases h : v.ps = []
  · exact .inl (by rw [g.pn, h]; rfl)
  · have := g.og h
    have hs := g.sg h
    refine .inr ⟨by have := g.pn; have := g.few; omega, by omega, by omega, fun i hi => ⟨?_, fun h0 => ?_⟩⟩
    · rw [g.pn] at hi
      have : v.ps.getD i 0 ∈ v.ps := by simp [hi]
      exact g.knot _ this
    · rw [g.pn] at hi
      have := steps_at g.near i h0 hi
      rw [Int.tdiv_eq_ediv_of_nonneg (by omega)]
      dsimp only
      omega

theorem infoInt : (Try.prog.info? 3).map (fun i => (i.zero, i.size, i.bytes)) = some (some (.int .i64 0), 1, 8) := by kernel_rfl
/-- Two axes' blocks, and the numbers of their tables. -/
structure Pair (B : Nat) (w0 : World) (gr gy : Nat) (cr cy : Array Value) (pa : Option Addr) (pn : Nat) (z : Nat → Int) (pa' : Option Addr) (pn' : Nat) (z' : Nat → Int) (w : World) : Prop where
  r : Blk w gr 25 cr
  y : Blk w gy 25 cy
  bel : Below B w0 w
  size : B ≤ w.heap.size
  zr : IntsAt w pa pn z
  zy : IntsAt w pa' pn' z'
section
variable {B : Nat} {w0 w w' : World} {gr gy : Nat} {cr cy : Array Value} {pa pa' : Option Addr} {pn pn' : Nat} {z z' : Nat → Int}
theorem Pair.below (h : Pair B w0 gr gy cr cy pa pn z pa' pn' z' w) (hb : Below w.heap.size w w') : Pair B w0 gr gy cr cy pa pn z pa' pn' z' w' :=
  ⟨h.r.below hb h.r.lt, h.y.below hb h.y.lt, h.bel.trans (hb.mono h.size), Nat.le_trans h.size hb.size, h.zr.below hb, h.zy.below hb⟩
theorem Pair.drew (h : Pair B w0 gr gy cr cy pa pn z pa' pn' z' w) : Pair B w0 gr gy cr cy pa pn z pa' pn' z' w.drew := ⟨h.r.drew, h.y.drew, h.bel.drew, h.size, h.zr, h.zy⟩
/-- A field of the second one is written. -/
theorem Pair.put (h : Pair B w0 gr gy cr cy pa pn z pa' pn' z' w) (hB : B ≤ gy) (hne : gr ≠ gy) (hr : ∀ b o, pa = some ⟨b, o, none⟩ → 0 < pn → b ≠ gy) (hy : ∀ b o, pa' = some ⟨b, o, none⟩ → 0 < pn' → b ≠ gy) (i : Nat) (u : Value) :
    Pair B w0 gr gy cr (cy.setIfInBounds i u) pa pn z pa' pn' z' (w.setCell ⟨gy, i, none⟩ u) :=
  ⟨h.r.far hne u, h.y.put i u, h.bel.setCell hB u, by simpa [World.setCell] using h.size,
    fun j hj => by
      obtain ⟨b, o, e, hb, hc⟩ := h.zr j hj
      exact ⟨b, o, e, by simpa [World.setCell] using hb, by rw [World.cell?_setCell_other _ _ _ _ (by intro e'; injection e' with e1; exact hr b o e (by omega) e1.symm)]; exact hc⟩,
    fun j hj => by
      obtain ⟨b, o, e, hb, hc⟩ := h.zy j hj
      exact ⟨b, o, e, by simpa [World.setCell] using hb, by rw [World.cell?_setCell_other _ _ _ _ (by intro e'; injection e' with e1; exact hy b o e (by omega) e1.symm)]; exact hc⟩⟩
end
theorem IntsAt.news {w : World} {a : Option Addr} {n : Nat} {l : List Int} (h : IntsAt w a n (fun i => l.getD i 0)) (hl : l.length = n) : ∀ ad, a = some ad → ∀ j u, (l.map (Value.int .i64))[j]? = some u → w.cell? (ad.add j) = some u := by
  intro ad e j u hu
  have hj : j < n := by
    have := (List.getElem?_eq_some_iff.1 hu).1
    simpa [hl] using this
  obtain ⟨b, o, e', _, hc⟩ := h j hj
  rw [e] at e'
  cases e'
  rw [Addr.add_mid, hc]
  rw [← hu]
  simp [show j < l.length by omega]

set_option maxRecDepth 100000 in
set_option maxHeartbeats 4000000 in
theorem axval_walk (c : List Value) (a0 : Option Addr) (len0 cap0 : Nat) (z0 : List Int) (k n : Int) (w : World) (hc : Leaves w axisKs c) (hr : IsRow .i64 w a0 len0 cap0 z0) :
    Calls Try.prog 7 #[.agg c.toArray, .slice a0 len0 cap0, .int .i64 k, .int .i64 n] w fun e w' => e = .returned (.bool true) ∧ Below w.heap.size w w' := by
  obtain ⟨st, sp, ac, je, lo, hi, ba, og, sg, pa, pn, pc, zs, e, hraw⟩ := axis_cells hc
  rw [e]
  clear e hc
  obtain ⟨hrm1, hrm2⟩ := hraw.most
  have hzr := hraw.ints
  clear hraw
  generalize (fun i => zs.getD i 0) = z at hzr
  have HZ := Lib.hid hzr
  unfold axc
  go_enter Try.func7, Try.ntmps7
  go_wp2_with fail
  refine (awake_true _).mono ?_
  rintro e wa ⟨rfl, bela⟩
  have br : Blk wa w.heap.size 25 #[.int .i64 st, .int .i64 sp, .int .i64 ac, .int .i64 je, .int .i64 lo, .int .i64 hi, .int .i64 ba, .int .i64 og, .int .i64 sg, .slice pa pn pc] := (Blk.new w _ _).below bela (by simp)
  have hwa : w.heap.size < wa.heap.size := br.lt
  have bela := ((Below.refl w.heap.size w).alloc (Nat.le_refl _) _).trans (bela.mono (by simp))
  have e9 := br.cell' 9 rfl
  by_cases h200 : (200 : Int) < (pn : Int)
  · go_wp2_with fail
    go_ret
    exact ⟨rfl, bela⟩
  have d200 : decide ((200 : Int) < (pn : Int)) = false := decide_eq_false h200
  go_wp2_with fail
  refine (axes_any wa _ _ _ z0 (hr.below bela)).mono ?_
  rintro e wb ⟨v1, v2, v3, rfl, g1, g2, g3, belb, own⟩
  have brb := br.below belb br.lt
  have bel := bela.trans (belb.mono bela.size)
  have hzb := (hzr.below bela).below belb
  have hwb : wa.heap.size ≤ wb.heap.size := belb.size
  clear bela belb e9 br hzr hr g2 g3
  have i0 := fun W => axis0 v1 v2 v3 W
  simp only [AxisV.cells, List.append_toArray, List.cons_append, List.nil_append] at i0 ⊢
  have hzx : IntsAt wb v1.pa v1.pn (fun i => v1.ps.getD i 0) := IntsAt.own own
  have hlen := g1.pn
  have hfew : v1.pn ≤ 4 := by have := g1.few; omega
  have belx := (Below.refl wb.heap.size wb).alloc (Nat.le_refl _) (.cells #[.int .i64 v1.st, .int .i64 v1.sp, .int .i64 v1.ac, .int .i64 v1.je, .int .i64 (-16777216), .int .i64 16777216, .int .i64 v1.ba, .int .i64 v1.og, .int .i64 v1.sg, .slice v1.pa v1.pn v1.pc] 25)
  have hv := valid_any v1.st v1.sp v1.ac v1.je (-16777216) 16777216 v1.ba v1.og v1.sg v1.pa v1.pn v1.pc _ _ (hzx.below belx) (by omega)
  rw [good_valid g1] at hv
  unfold axc at hv
  have HV := Lib.hid hv
  have HLEN := Lib.hid hlen
  have hnil : v1.pa = none → v1.pn = 0 ∧ v1.pc = 0 := by
    intro h
    rcases own.2 with ⟨h1, h2⟩ | ⟨g', cap', cur', h1, _⟩
    · injection h1 with _ e2 e3; exact ⟨e2, e3⟩
    · injection h1 with e1; rw [h] at e1; cases e1
  have HNIL := Lib.hid hnil
  clear hv hlen hnil own g1
  go_wp2_with fail
  refine HV.out.mono ?_
  rintro e wc ⟨rfl, belc⟩
  have bx : Blk wc wb.heap.size 25 #[.int .i64 v1.st, .int .i64 v1.sp, .int .i64 v1.ac, .int .i64 v1.je, .int .i64 (-16777216), .int .i64 16777216, .int .i64 v1.ba, .int .i64 v1.og, .int .i64 v1.sg, .slice v1.pa v1.pn v1.pc] := (Blk.new wb _ _).below belc (by simp)
  have brc := (brb.below belx brb.lt).below belc (by have := brb.lt; simp; omega)
  have belc' : Below wb.heap.size wb wc := belx.trans (belc.mono (by simp))
  have hzc := hzb.below belc'
  have hzxc := hzx.below belc'
  have belw := bel.trans (belc'.mono bel.size)
  have hwc : wb.heap.size < wc.heap.size := bx.lt
  clear belc belc' belx HV hzb hzx brb bel
  have e0 := bx.cell' 0 rfl
  have e1 := bx.cell' 1 rfl
  have e2 := bx.cell' 2 rfl
  have e3 := bx.cell' 3 rfl
  have e4 := bx.cell' 4 rfl
  have e5 := bx.cell' 5 rfl
  have e6 := bx.cell' 6 rfl
  have e7 := bx.cell' 7 rfl
  have e8 := bx.cell' 8 rfl
  have e9 := bx.cell' 9 rfl
  obtain ⟨i0, hii, hq0, hq1, hq2⟩ := info_parts infoInt
  have hown : ((wc.alloc (.cells #[.int .i64 v1.st, .int .i64 v1.sp, .int .i64 v1.ac, .int .i64 v1.je, .int .i64 (-16777216), .int .i64 16777216, .int .i64 v1.ba, .int .i64 v1.og, .int .i64 v1.sg, .slice v1.pa v1.pn v1.pc] 25)).alloc (.cells #[] 3)).ownsRow wb.heap.size 3 1 (.slice (some ⟨wc.heap.size + 1, 0, none⟩) 0 0) 0 [] := by
    have := World.ownsRow_made (base := wb.heap.size) (e := 3) (size := 1) (wc.alloc (.cells #[.int .i64 v1.st, .int .i64 v1.sp, .int .i64 v1.ac, .int .i64 v1.je, .int .i64 (-16777216), .int .i64 16777216, .int .i64 v1.ba, .int .i64 v1.og, .int .i64 v1.sg, .slice v1.pa v1.pn v1.pc] 25)) #[] 0 (by simp; omega) (by unfold maxLen; omega) rfl
    simpa using this
  have belcc := ((Below.refl wc.heap.size wc).alloc (Nat.le_refl _) (.cells #[.int .i64 v1.st, .int .i64 v1.sp, .int .i64 v1.ac, .int .i64 v1.je, .int .i64 (-16777216), .int .i64 16777216, .int .i64 v1.ba, .int .i64 v1.og, .int .i64 v1.sg, .slice v1.pa v1.pn v1.pc] 25)).alloc (by simp) (.cells #[] 3)
  have hnews := (hzxc.below belcc).news HLEN.out.symm
  have HN := Lib.hid hnews
  clear hnews
  go_wp2_with (at_builtin; refine wpList_append_tab rfl (.tmp 24) (.tmp 26) 22 rfl wb.heap.size 3 i0 (.int .i64 0) 1 8 Try.underlying22 hii hq0 hq1 hq2 rfl (by decide) (.slice (some ⟨wc.heap.size + 1, 0, none⟩) 0 0) 0 [] rfl hown v1.pa v1.pn v1.pc (v1.ps.map (Value.int .i64)) rfl HNIL.out (by simp [HLEN.out]) HN.out (by intro u hu; obtain ⟨x, _, rfl⟩ := List.mem_map.1 hu; rfl) (by unfold maxLen; omega) (by omega) (by simp; omega) ?_)
  intro v' w1 own' hgrow hne
  clear hne hown HN e0 e1 e2 e3 e4 e5 e6 e7 e8 e9
  obtain ⟨ya, yc, rfl⟩ := own_form own'
  have belc1 : Below wc.heap.size wc w1 := belcc.trans (below_of_grown hgrow (by simp; omega) (fun j hj => by simp [Value.ownBlock] at hj; omega))
  have by1 : Blk w1 wc.heap.size 25 #[.int .i64 v1.st, .int .i64 v1.sp, .int .i64 v1.ac, .int .i64 v1.je, .int .i64 (-16777216), .int .i64 16777216, .int .i64 v1.ba, .int .i64 v1.og, .int .i64 v1.sg, .slice v1.pa v1.pn v1.pc] := ((Blk.new wc _ _).alloc _).grown hgrow (by simp [Value.ownBlock])
  have own2 := own_setCell (p := ⟨wc.heap.size, 9, none⟩) (u := .slice ya v1.pn yc) own' by1 (by decide)
  have hya : ∀ b o, ya = some ⟨b, o, none⟩ → 0 < v1.pn → b ≠ wc.heap.size := fun b o e _ h => own_ne own' by1 (by decide) (by subst e; subst h; rfl)
  have hpa : ∀ b o, pa = some ⟨b, o, none⟩ → 0 < pn → b ≠ wc.heap.size := fun b o e h0 => by
    obtain ⟨b', o', e', hb, _⟩ := HZ.out 0 h0
    rw [e] at e'
    cases e'
    omega
  have P1 : Pair w.heap.size w w.heap.size wc.heap.size (axc st sp ac je lo hi ba og sg pa pn pc) #[.int .i64 v1.st, .int .i64 v1.sp, .int .i64 v1.ac, .int .i64 v1.je, .int .i64 (-16777216), .int .i64 16777216, .int .i64 v1.ba, .int .i64 v1.og, .int .i64 v1.sg, .slice v1.pa v1.pn v1.pc] pa pn z ya v1.pn (fun i => v1.ps.getD i 0) w1 :=
    ⟨brc.below belc1 (by omega), by1, belw.trans (belc1.mono (by omega)), by have := belc1.size; omega, hzc.below belc1, IntsAt.own own'⟩
  have P2 := P1.put (by omega) (by omega) hpa hya 9 (.slice ya v1.pn yc)
  have P3 : Pair w.heap.size w w.heap.size wc.heap.size (axc st sp ac je lo hi ba og sg pa pn pc) (axc v1.st v1.sp v1.ac v1.je (-16777216) 16777216 v1.ba v1.og v1.sg ya v1.pn yc) pa pn z ya v1.pn (fun i => v1.ps.getD i 0) (w1.setCell ⟨wc.heap.size, 9, none⟩ (.slice ya v1.pn yc)) := P2
  have e9 := by1.cell' 9 rfl
  have f9 := by1.frozen 9
  have HYA := Lib.hid hya
  have HPA := Lib.hid hpa
  clear hya hpa P1 P2 by1 own' belc1 brc hzc hzxc bx hgrow belcc
  go_wp2_with fail
  refine calls_told (fun w' => Pair w.heap.size w w.heap.size wc.heap.size (axc st sp ac je lo hi ba og sg pa pn pc) (axc v1.st v1.sp v1.ac v1.je (-16777216) 16777216 v1.ba v1.og v1.sg ya v1.pn yc) pa pn z ya v1.pn (fun i => v1.ps.getD i 0) w' ∧ w'.ownsRow wb.heap.size 3 1 (.slice ya v1.pn yc) v1.pn (v1.ps.map (Value.int .i64))) ⟨P3, own2⟩ ?_
  rintro w2 ⟨P4, own4⟩
  clear P3 own2 e9 f9
  refine (mod_any n 9 w2 (by omega) (by omega)).mono ?_
  rintro e w' ⟨rfl, rfl⟩
  have hr9 : n % 9 = 0 ∨ n % 9 = 1 ∨ n % 9 = 2 ∨ n % 9 = 3 ∨ n % 9 = 4 ∨ n % 9 = 5 ∨ n % 9 = 6 ∨ n % 9 = 7 ∨ n % 9 = 8 := by omega
  generalize n % 9 = r at hr9
  have fz : ∀ i, w2.frozen? ⟨wc.heap.size, i, none⟩ = false := fun i => P4.y.frozen i
  have e0 : w2.cell? ⟨wc.heap.size, 0, none⟩ = some (.int .i64 v1.st) := P4.y.cell' 0 rfl
  have e1 : w2.cell? ⟨wc.heap.size, 1, none⟩ = some (.int .i64 v1.sp) := P4.y.cell' 1 rfl
  have e2 : w2.cell? ⟨wc.heap.size, 2, none⟩ = some (.int .i64 v1.ac) := P4.y.cell' 2 rfl
  have e3 : w2.cell? ⟨wc.heap.size, 3, none⟩ = some (.int .i64 v1.je) := P4.y.cell' 3 rfl
  have e4 : w2.cell? ⟨wc.heap.size, 4, none⟩ = some (.int .i64 (-16777216)) := P4.y.cell' 4 rfl
  have e5 : w2.cell? ⟨wc.heap.size, 5, none⟩ = some (.int .i64 16777216) := P4.y.cell' 5 rfl
  have e6 : w2.cell? ⟨wc.heap.size, 6, none⟩ = some (.int .i64 v1.ba) := P4.y.cell' 6 rfl
  have e7 : w2.cell? ⟨wc.heap.size, 7, none⟩ = some (.int .i64 v1.og) := P4.y.cell' 7 rfl
  have e8 : w2.cell? ⟨wc.heap.size, 8, none⟩ = some (.int .i64 v1.sg) := P4.y.cell' 8 rfl
  have e9 : w2.cell? ⟨wc.heap.size, 9, none⟩ = some (.slice ya v1.pn yc) := P4.y.cell' 9 rfl
  have hwn : w.heap.size ≠ wc.heap.size := by omega
  have hwl : w.heap.size ≤ wc.heap.size := by omega
  rcases hr9 with rfl | rfl | rfl | rfl | rfl | rfl | rfl | rfl | rfl
  · obtain ⟨y0, y1, y2, y3, y4, y5, y6, y7, y8, z', hP⟩ : ∃ y0 y1 y2 y3 y4 y5 y6 y7 y8 z', Pair w.heap.size w w.heap.size wc.heap.size (axc st sp ac je lo hi ba og sg pa pn pc) (axc y0 y1 y2 y3 y4 y5 y6 y7 y8 ya v1.pn yc) pa pn z ya v1.pn z' (w2.setCell ⟨wc.heap.size, 0, none⟩ (.int .i64 k)) := ⟨k, v1.sp, v1.ac, v1.je, (-16777216), 16777216, v1.ba, v1.og, v1.sg, (fun i => v1.ps.getD i 0), P4.put hwl hwn HPA.out HYA.out 0 (.int .i64 k)⟩
    clear P4 own4 HYA HPA
    go_wp2_with fail
    have hs := hP.drew
    let S := Pair w.heap.size w w.heap.size wc.heap.size (axc st sp ac je lo hi ba og sg pa pn pc) (axc y0 y1 y2 y3 y4 y5 y6 y7 y8 ya v1.pn yc) pa pn z ya v1.pn z'
    have ca := fun p : At S => valid_any y0 y1 y2 y3 y4 y5 y6 y7 y8 ya v1.pn yc z' p.w p.ok.zy (by omega)
    have cb := fun p : At S => rvalid_any y0 y1 y2 y3 y4 y5 y6 y7 y8 ya v1.pn yc z' p.w p.ok.zy (by omega)
    have cc := fun p : At S => valid_any st sp ac je lo hi ba og sg pa pn pc z p.w p.ok.zr (by omega)
    have cd := fun p : At S => rvalid_any st sp ac je lo hi ba og sg pa pn pc z p.w p.ok.zr (by omega)
    generalize validB y0 y1 y2 y3 y4 y5 y6 y7 y8 v1.pn z' = R1 at ca cb
    generalize validB st sp ac je lo hi ba og sg pn z = R2 at cc cd
    have hA : ∀ (p : At S) w', Below p.w.heap.size p.w w' → S w' := fun p w' h => p.ok.below h
    have hB : ∀ p : At S, Below w.heap.size w p.w := fun p => p.ok.bel
    have a0 : ∀ p : At S, p.w.cell? ⟨wc.heap.size, 0, none⟩ = some (.int .i64 y0) := fun p => p.ok.y.cell' 0 rfl
    have a1 : ∀ p : At S, p.w.cell? ⟨wc.heap.size, 1, none⟩ = some (.int .i64 y1) := fun p => p.ok.y.cell' 1 rfl
    have a2 : ∀ p : At S, p.w.cell? ⟨wc.heap.size, 2, none⟩ = some (.int .i64 y2) := fun p => p.ok.y.cell' 2 rfl
    have a3 : ∀ p : At S, p.w.cell? ⟨wc.heap.size, 3, none⟩ = some (.int .i64 y3) := fun p => p.ok.y.cell' 3 rfl
    have a4 : ∀ p : At S, p.w.cell? ⟨wc.heap.size, 4, none⟩ = some (.int .i64 y4) := fun p => p.ok.y.cell' 4 rfl
    have a5 : ∀ p : At S, p.w.cell? ⟨wc.heap.size, 5, none⟩ = some (.int .i64 y5) := fun p => p.ok.y.cell' 5 rfl
    have a6 : ∀ p : At S, p.w.cell? ⟨wc.heap.size, 6, none⟩ = some (.int .i64 y6) := fun p => p.ok.y.cell' 6 rfl
    have a7 : ∀ p : At S, p.w.cell? ⟨wc.heap.size, 7, none⟩ = some (.int .i64 y7) := fun p => p.ok.y.cell' 7 rfl
    have a8 : ∀ p : At S, p.w.cell? ⟨wc.heap.size, 8, none⟩ = some (.int .i64 y8) := fun p => p.ok.y.cell' 8 rfl
    have a9 : ∀ p : At S, p.w.cell? ⟨wc.heap.size, 9, none⟩ = some (.slice ya v1.pn yc) := fun p => p.ok.y.cell' 9 rfl
    have b0 : ∀ p : At S, p.w.cell? ⟨w.heap.size, 0, none⟩ = some (.int .i64 st) := fun p => p.ok.r.cell' 0 rfl
    have b1 : ∀ p : At S, p.w.cell? ⟨w.heap.size, 1, none⟩ = some (.int .i64 sp) := fun p => p.ok.r.cell' 1 rfl
    have b2 : ∀ p : At S, p.w.cell? ⟨w.heap.size, 2, none⟩ = some (.int .i64 ac) := fun p => p.ok.r.cell' 2 rfl
    have b3 : ∀ p : At S, p.w.cell? ⟨w.heap.size, 3, none⟩ = some (.int .i64 je) := fun p => p.ok.r.cell' 3 rfl
    have b4 : ∀ p : At S, p.w.cell? ⟨w.heap.size, 4, none⟩ = some (.int .i64 lo) := fun p => p.ok.r.cell' 4 rfl
    have b5 : ∀ p : At S, p.w.cell? ⟨w.heap.size, 5, none⟩ = some (.int .i64 hi) := fun p => p.ok.r.cell' 5 rfl
    have b6 : ∀ p : At S, p.w.cell? ⟨w.heap.size, 6, none⟩ = some (.int .i64 ba) := fun p => p.ok.r.cell' 6 rfl
    have b7 : ∀ p : At S, p.w.cell? ⟨w.heap.size, 7, none⟩ = some (.int .i64 og) := fun p => p.ok.r.cell' 7 rfl
    have b8 : ∀ p : At S, p.w.cell? ⟨w.heap.size, 8, none⟩ = some (.int .i64 sg) := fun p => p.ok.r.cell' 8 rfl
    have b9 : ∀ p : At S, p.w.cell? ⟨w.heap.size, 9, none⟩ = some (.slice pa pn pc) := fun p => p.ok.r.cell' 9 rfl
    have inst : Nonempty (At S) := ⟨⟨_, hs⟩⟩
    have hs' : S _ := hs
    unfold axc at ca cb cc cd
    have CA := Lib.hid ca
    have CB := Lib.hid cb
    have CC := Lib.hid cc
    have CD := Lib.hid cd
    clear ca cb cc cd hs hP
    clear_value S
    refine wp_region_at S (by kernel_rfl) (by kernel_rfl) hs' ?_
    repeat go_big_quiet_step (first | with_reducible exact Calls.at_of (CA.out _) fun e w' h => ⟨h.1, hA _ _ h.2⟩ | with_reducible exact Calls.at_of (CB.out _) fun e w' h => ⟨h.1, hA _ _ h.2⟩ | with_reducible exact Calls.at_of (CC.out _) fun e w' h => ⟨h.1, hA _ _ h.2⟩ | with_reducible exact Calls.at_of (CD.out _) fun e w' h => ⟨h.1, hA _ _ h.2⟩)
    refine wpQuiet_nil ?_
    rintro _ ⟨p, rfl⟩
    go_wp2_with fail
    go_ret
    exact ⟨rfl, hB p⟩
  · obtain ⟨y0, y1, y2, y3, y4, y5, y6, y7, y8, z', hP⟩ : ∃ y0 y1 y2 y3 y4 y5 y6 y7 y8 z', Pair w.heap.size w w.heap.size wc.heap.size (axc st sp ac je lo hi ba og sg pa pn pc) (axc y0 y1 y2 y3 y4 y5 y6 y7 y8 ya v1.pn yc) pa pn z ya v1.pn z' (w2.setCell ⟨wc.heap.size, 1, none⟩ (.int .i64 k)) := ⟨v1.st, k, v1.ac, v1.je, (-16777216), 16777216, v1.ba, v1.og, v1.sg, (fun i => v1.ps.getD i 0), P4.put hwl hwn HPA.out HYA.out 1 (.int .i64 k)⟩
    clear P4 own4 HYA HPA
    go_wp2_with fail
    have hs := hP.drew
    let S := Pair w.heap.size w w.heap.size wc.heap.size (axc st sp ac je lo hi ba og sg pa pn pc) (axc y0 y1 y2 y3 y4 y5 y6 y7 y8 ya v1.pn yc) pa pn z ya v1.pn z'
    have ca := fun p : At S => valid_any y0 y1 y2 y3 y4 y5 y6 y7 y8 ya v1.pn yc z' p.w p.ok.zy (by omega)
    have cb := fun p : At S => rvalid_any y0 y1 y2 y3 y4 y5 y6 y7 y8 ya v1.pn yc z' p.w p.ok.zy (by omega)
    have cc := fun p : At S => valid_any st sp ac je lo hi ba og sg pa pn pc z p.w p.ok.zr (by omega)
    have cd := fun p : At S => rvalid_any st sp ac je lo hi ba og sg pa pn pc z p.w p.ok.zr (by omega)
    generalize validB y0 y1 y2 y3 y4 y5 y6 y7 y8 v1.pn z' = R1 at ca cb
    generalize validB st sp ac je lo hi ba og sg pn z = R2 at cc cd
    have hA : ∀ (p : At S) w', Below p.w.heap.size p.w w' → S w' := fun p w' h => p.ok.below h
    have hB : ∀ p : At S, Below w.heap.size w p.w := fun p => p.ok.bel
    have a0 : ∀ p : At S, p.w.cell? ⟨wc.heap.size, 0, none⟩ = some (.int .i64 y0) := fun p => p.ok.y.cell' 0 rfl
    have a1 : ∀ p : At S, p.w.cell? ⟨wc.heap.size, 1, none⟩ = some (.int .i64 y1) := fun p => p.ok.y.cell' 1 rfl
    have a2 : ∀ p : At S, p.w.cell? ⟨wc.heap.size, 2, none⟩ = some (.int .i64 y2) := fun p => p.ok.y.cell' 2 rfl
    have a3 : ∀ p : At S, p.w.cell? ⟨wc.heap.size, 3, none⟩ = some (.int .i64 y3) := fun p => p.ok.y.cell' 3 rfl
    have a4 : ∀ p : At S, p.w.cell? ⟨wc.heap.size, 4, none⟩ = some (.int .i64 y4) := fun p => p.ok.y.cell' 4 rfl
    have a5 : ∀ p : At S, p.w.cell? ⟨wc.heap.size, 5, none⟩ = some (.int .i64 y5) := fun p => p.ok.y.cell' 5 rfl
    have a6 : ∀ p : At S, p.w.cell? ⟨wc.heap.size, 6, none⟩ = some (.int .i64 y6) := fun p => p.ok.y.cell' 6 rfl
    have a7 : ∀ p : At S, p.w.cell? ⟨wc.heap.size, 7, none⟩ = some (.int .i64 y7) := fun p => p.ok.y.cell' 7 rfl
    have a8 : ∀ p : At S, p.w.cell? ⟨wc.heap.size, 8, none⟩ = some (.int .i64 y8) := fun p => p.ok.y.cell' 8 rfl
    have a9 : ∀ p : At S, p.w.cell? ⟨wc.heap.size, 9, none⟩ = some (.slice ya v1.pn yc) := fun p => p.ok.y.cell' 9 rfl
    have b0 : ∀ p : At S, p.w.cell? ⟨w.heap.size, 0, none⟩ = some (.int .i64 st) := fun p => p.ok.r.cell' 0 rfl
    have b1 : ∀ p : At S, p.w.cell? ⟨w.heap.size, 1, none⟩ = some (.int .i64 sp) := fun p => p.ok.r.cell' 1 rfl
    have b2 : ∀ p : At S, p.w.cell? ⟨w.heap.size, 2, none⟩ = some (.int .i64 ac) := fun p => p.ok.r.cell' 2 rfl
    have b3 : ∀ p : At S, p.w.cell? ⟨w.heap.size, 3, none⟩ = some (.int .i64 je) := fun p => p.ok.r.cell' 3 rfl
    have b4 : ∀ p : At S, p.w.cell? ⟨w.heap.size, 4, none⟩ = some (.int .i64 lo) := fun p => p.ok.r.cell' 4 rfl
    have b5 : ∀ p : At S, p.w.cell? ⟨w.heap.size, 5, none⟩ = some (.int .i64 hi) := fun p => p.ok.r.cell' 5 rfl
    have b6 : ∀ p : At S, p.w.cell? ⟨w.heap.size, 6, none⟩ = some (.int .i64 ba) := fun p => p.ok.r.cell' 6 rfl
    have b7 : ∀ p : At S, p.w.cell? ⟨w.heap.size, 7, none⟩ = some (.int .i64 og) := fun p => p.ok.r.cell' 7 rfl
    have b8 : ∀ p : At S, p.w.cell? ⟨w.heap.size, 8, none⟩ = some (.int .i64 sg) := fun p => p.ok.r.cell' 8 rfl
    have b9 : ∀ p : At S, p.w.cell? ⟨w.heap.size, 9, none⟩ = some (.slice pa pn pc) := fun p => p.ok.r.cell' 9 rfl
    have inst : Nonempty (At S) := ⟨⟨_, hs⟩⟩
    have hs' : S _ := hs
    unfold axc at ca cb cc cd
    have CA := Lib.hid ca
    have CB := Lib.hid cb
    have CC := Lib.hid cc
    have CD := Lib.hid cd
    clear ca cb cc cd hs hP
    clear_value S
    refine wp_region_at S (by kernel_rfl) (by kernel_rfl) hs' ?_
    repeat go_big_quiet_step (first | with_reducible exact Calls.at_of (CA.out _) fun e w' h => ⟨h.1, hA _ _ h.2⟩ | with_reducible exact Calls.at_of (CB.out _) fun e w' h => ⟨h.1, hA _ _ h.2⟩ | with_reducible exact Calls.at_of (CC.out _) fun e w' h => ⟨h.1, hA _ _ h.2⟩ | with_reducible exact Calls.at_of (CD.out _) fun e w' h => ⟨h.1, hA _ _ h.2⟩)
    refine wpQuiet_nil ?_
    rintro _ ⟨p, rfl⟩
    go_wp2_with fail
    go_ret
    exact ⟨rfl, hB p⟩
  · obtain ⟨y0, y1, y2, y3, y4, y5, y6, y7, y8, z', hP⟩ : ∃ y0 y1 y2 y3 y4 y5 y6 y7 y8 z', Pair w.heap.size w w.heap.size wc.heap.size (axc st sp ac je lo hi ba og sg pa pn pc) (axc y0 y1 y2 y3 y4 y5 y6 y7 y8 ya v1.pn yc) pa pn z ya v1.pn z' (w2.setCell ⟨wc.heap.size, 2, none⟩ (.int .i64 k)) := ⟨v1.st, v1.sp, k, v1.je, (-16777216), 16777216, v1.ba, v1.og, v1.sg, (fun i => v1.ps.getD i 0), P4.put hwl hwn HPA.out HYA.out 2 (.int .i64 k)⟩
    clear P4 own4 HYA HPA
    go_wp2_with fail
    have hs := hP.drew
    let S := Pair w.heap.size w w.heap.size wc.heap.size (axc st sp ac je lo hi ba og sg pa pn pc) (axc y0 y1 y2 y3 y4 y5 y6 y7 y8 ya v1.pn yc) pa pn z ya v1.pn z'
    have ca := fun p : At S => valid_any y0 y1 y2 y3 y4 y5 y6 y7 y8 ya v1.pn yc z' p.w p.ok.zy (by omega)
    have cb := fun p : At S => rvalid_any y0 y1 y2 y3 y4 y5 y6 y7 y8 ya v1.pn yc z' p.w p.ok.zy (by omega)
    have cc := fun p : At S => valid_any st sp ac je lo hi ba og sg pa pn pc z p.w p.ok.zr (by omega)
    have cd := fun p : At S => rvalid_any st sp ac je lo hi ba og sg pa pn pc z p.w p.ok.zr (by omega)
    generalize validB y0 y1 y2 y3 y4 y5 y6 y7 y8 v1.pn z' = R1 at ca cb
    generalize validB st sp ac je lo hi ba og sg pn z = R2 at cc cd
    have hA : ∀ (p : At S) w', Below p.w.heap.size p.w w' → S w' := fun p w' h => p.ok.below h
    have hB : ∀ p : At S, Below w.heap.size w p.w := fun p => p.ok.bel
    have a0 : ∀ p : At S, p.w.cell? ⟨wc.heap.size, 0, none⟩ = some (.int .i64 y0) := fun p => p.ok.y.cell' 0 rfl
    have a1 : ∀ p : At S, p.w.cell? ⟨wc.heap.size, 1, none⟩ = some (.int .i64 y1) := fun p => p.ok.y.cell' 1 rfl
    have a2 : ∀ p : At S, p.w.cell? ⟨wc.heap.size, 2, none⟩ = some (.int .i64 y2) := fun p => p.ok.y.cell' 2 rfl
    have a3 : ∀ p : At S, p.w.cell? ⟨wc.heap.size, 3, none⟩ = some (.int .i64 y3) := fun p => p.ok.y.cell' 3 rfl
    have a4 : ∀ p : At S, p.w.cell? ⟨wc.heap.size, 4, none⟩ = some (.int .i64 y4) := fun p => p.ok.y.cell' 4 rfl
    have a5 : ∀ p : At S, p.w.cell? ⟨wc.heap.size, 5, none⟩ = some (.int .i64 y5) := fun p => p.ok.y.cell' 5 rfl
    have a6 : ∀ p : At S, p.w.cell? ⟨wc.heap.size, 6, none⟩ = some (.int .i64 y6) := fun p => p.ok.y.cell' 6 rfl
    have a7 : ∀ p : At S, p.w.cell? ⟨wc.heap.size, 7, none⟩ = some (.int .i64 y7) := fun p => p.ok.y.cell' 7 rfl
    have a8 : ∀ p : At S, p.w.cell? ⟨wc.heap.size, 8, none⟩ = some (.int .i64 y8) := fun p => p.ok.y.cell' 8 rfl
    have a9 : ∀ p : At S, p.w.cell? ⟨wc.heap.size, 9, none⟩ = some (.slice ya v1.pn yc) := fun p => p.ok.y.cell' 9 rfl
    have b0 : ∀ p : At S, p.w.cell? ⟨w.heap.size, 0, none⟩ = some (.int .i64 st) := fun p => p.ok.r.cell' 0 rfl
    have b1 : ∀ p : At S, p.w.cell? ⟨w.heap.size, 1, none⟩ = some (.int .i64 sp) := fun p => p.ok.r.cell' 1 rfl
    have b2 : ∀ p : At S, p.w.cell? ⟨w.heap.size, 2, none⟩ = some (.int .i64 ac) := fun p => p.ok.r.cell' 2 rfl
    have b3 : ∀ p : At S, p.w.cell? ⟨w.heap.size, 3, none⟩ = some (.int .i64 je) := fun p => p.ok.r.cell' 3 rfl
    have b4 : ∀ p : At S, p.w.cell? ⟨w.heap.size, 4, none⟩ = some (.int .i64 lo) := fun p => p.ok.r.cell' 4 rfl
    have b5 : ∀ p : At S, p.w.cell? ⟨w.heap.size, 5, none⟩ = some (.int .i64 hi) := fun p => p.ok.r.cell' 5 rfl
    have b6 : ∀ p : At S, p.w.cell? ⟨w.heap.size, 6, none⟩ = some (.int .i64 ba) := fun p => p.ok.r.cell' 6 rfl
    have b7 : ∀ p : At S, p.w.cell? ⟨w.heap.size, 7, none⟩ = some (.int .i64 og) := fun p => p.ok.r.cell' 7 rfl
    have b8 : ∀ p : At S, p.w.cell? ⟨w.heap.size, 8, none⟩ = some (.int .i64 sg) := fun p => p.ok.r.cell' 8 rfl
    have b9 : ∀ p : At S, p.w.cell? ⟨w.heap.size, 9, none⟩ = some (.slice pa pn pc) := fun p => p.ok.r.cell' 9 rfl
    have inst : Nonempty (At S) := ⟨⟨_, hs⟩⟩
    have hs' : S _ := hs
    unfold axc at ca cb cc cd
    have CA := Lib.hid ca
    have CB := Lib.hid cb
    have CC := Lib.hid cc
    have CD := Lib.hid cd
    clear ca cb cc cd hs hP
    clear_value S
    refine wp_region_at S (by kernel_rfl) (by kernel_rfl) hs' ?_
    repeat go_big_quiet_step (first | with_reducible exact Calls.at_of (CA.out _) fun e w' h => ⟨h.1, hA _ _ h.2⟩ | with_reducible exact Calls.at_of (CB.out _) fun e w' h => ⟨h.1, hA _ _ h.2⟩ | with_reducible exact Calls.at_of (CC.out _) fun e w' h => ⟨h.1, hA _ _ h.2⟩ | with_reducible exact Calls.at_of (CD.out _) fun e w' h => ⟨h.1, hA _ _ h.2⟩)
    refine wpQuiet_nil ?_
    rintro _ ⟨p, rfl⟩
    go_wp2_with fail
    go_ret
    exact ⟨rfl, hB p⟩
  · obtain ⟨y0, y1, y2, y3, y4, y5, y6, y7, y8, z', hP⟩ : ∃ y0 y1 y2 y3 y4 y5 y6 y7 y8 z', Pair w.heap.size w w.heap.size wc.heap.size (axc st sp ac je lo hi ba og sg pa pn pc) (axc y0 y1 y2 y3 y4 y5 y6 y7 y8 ya v1.pn yc) pa pn z ya v1.pn z' (w2.setCell ⟨wc.heap.size, 3, none⟩ (.int .i64 k)) := ⟨v1.st, v1.sp, v1.ac, k, (-16777216), 16777216, v1.ba, v1.og, v1.sg, (fun i => v1.ps.getD i 0), P4.put hwl hwn HPA.out HYA.out 3 (.int .i64 k)⟩
    clear P4 own4 HYA HPA
    go_wp2_with fail
    have hs := hP.drew
    let S := Pair w.heap.size w w.heap.size wc.heap.size (axc st sp ac je lo hi ba og sg pa pn pc) (axc y0 y1 y2 y3 y4 y5 y6 y7 y8 ya v1.pn yc) pa pn z ya v1.pn z'
    have ca := fun p : At S => valid_any y0 y1 y2 y3 y4 y5 y6 y7 y8 ya v1.pn yc z' p.w p.ok.zy (by omega)
    have cb := fun p : At S => rvalid_any y0 y1 y2 y3 y4 y5 y6 y7 y8 ya v1.pn yc z' p.w p.ok.zy (by omega)
    have cc := fun p : At S => valid_any st sp ac je lo hi ba og sg pa pn pc z p.w p.ok.zr (by omega)
    have cd := fun p : At S => rvalid_any st sp ac je lo hi ba og sg pa pn pc z p.w p.ok.zr (by omega)
    generalize validB y0 y1 y2 y3 y4 y5 y6 y7 y8 v1.pn z' = R1 at ca cb
    generalize validB st sp ac je lo hi ba og sg pn z = R2 at cc cd
    have hA : ∀ (p : At S) w', Below p.w.heap.size p.w w' → S w' := fun p w' h => p.ok.below h
    have hB : ∀ p : At S, Below w.heap.size w p.w := fun p => p.ok.bel
    have a0 : ∀ p : At S, p.w.cell? ⟨wc.heap.size, 0, none⟩ = some (.int .i64 y0) := fun p => p.ok.y.cell' 0 rfl
    have a1 : ∀ p : At S, p.w.cell? ⟨wc.heap.size, 1, none⟩ = some (.int .i64 y1) := fun p => p.ok.y.cell' 1 rfl
    have a2 : ∀ p : At S, p.w.cell? ⟨wc.heap.size, 2, none⟩ = some (.int .i64 y2) := fun p => p.ok.y.cell' 2 rfl
    have a3 : ∀ p : At S, p.w.cell? ⟨wc.heap.size, 3, none⟩ = some (.int .i64 y3) := fun p => p.ok.y.cell' 3 rfl
    have a4 : ∀ p : At S, p.w.cell? ⟨wc.heap.size, 4, none⟩ = some (.int .i64 y4) := fun p => p.ok.y.cell' 4 rfl
    have a5 : ∀ p : At S, p.w.cell? ⟨wc.heap.size, 5, none⟩ = some (.int .i64 y5) := fun p => p.ok.y.cell' 5 rfl
    have a6 : ∀ p : At S, p.w.cell? ⟨wc.heap.size, 6, none⟩ = some (.int .i64 y6) := fun p => p.ok.y.cell' 6 rfl
    have a7 : ∀ p : At S, p.w.cell? ⟨wc.heap.size, 7, none⟩ = some (.int .i64 y7) := fun p => p.ok.y.cell' 7 rfl
    have a8 : ∀ p : At S, p.w.cell? ⟨wc.heap.size, 8, none⟩ = some (.int .i64 y8) := fun p => p.ok.y.cell' 8 rfl
    have a9 : ∀ p : At S, p.w.cell? ⟨wc.heap.size, 9, none⟩ = some (.slice ya v1.pn yc) := fun p => p.ok.y.cell' 9 rfl
    have b0 : ∀ p : At S, p.w.cell? ⟨w.heap.size, 0, none⟩ = some (.int .i64 st) := fun p => p.ok.r.cell' 0 rfl
    have b1 : ∀ p : At S, p.w.cell? ⟨w.heap.size, 1, none⟩ = some (.int .i64 sp) := fun p => p.ok.r.cell' 1 rfl
    have b2 : ∀ p : At S, p.w.cell? ⟨w.heap.size, 2, none⟩ = some (.int .i64 ac) := fun p => p.ok.r.cell' 2 rfl
    have b3 : ∀ p : At S, p.w.cell? ⟨w.heap.size, 3, none⟩ = some (.int .i64 je) := fun p => p.ok.r.cell' 3 rfl
    have b4 : ∀ p : At S, p.w.cell? ⟨w.heap.size, 4, none⟩ = some (.int .i64 lo) := fun p => p.ok.r.cell' 4 rfl
    have b5 : ∀ p : At S, p.w.cell? ⟨w.heap.size, 5, none⟩ = some (.int .i64 hi) := fun p => p.ok.r.cell' 5 rfl
    have b6 : ∀ p : At S, p.w.cell? ⟨w.heap.size, 6, none⟩ = some (.int .i64 ba) := fun p => p.ok.r.cell' 6 rfl
    have b7 : ∀ p : At S, p.w.cell? ⟨w.heap.size, 7, none⟩ = some (.int .i64 og) := fun p => p.ok.r.cell' 7 rfl
    have b8 : ∀ p : At S, p.w.cell? ⟨w.heap.size, 8, none⟩ = some (.int .i64 sg) := fun p => p.ok.r.cell' 8 rfl
    have b9 : ∀ p : At S, p.w.cell? ⟨w.heap.size, 9, none⟩ = some (.slice pa pn pc) := fun p => p.ok.r.cell' 9 rfl
    have inst : Nonempty (At S) := ⟨⟨_, hs⟩⟩
    have hs' : S _ := hs
    unfold axc at ca cb cc cd
    have CA := Lib.hid ca
    have CB := Lib.hid cb
    have CC := Lib.hid cc
    have CD := Lib.hid cd
    clear ca cb cc cd hs hP
    clear_value S
    refine wp_region_at S (by kernel_rfl) (by kernel_rfl) hs' ?_
    repeat go_big_quiet_step (first | with_reducible exact Calls.at_of (CA.out _) fun e w' h => ⟨h.1, hA _ _ h.2⟩ | with_reducible exact Calls.at_of (CB.out _) fun e w' h => ⟨h.1, hA _ _ h.2⟩ | with_reducible exact Calls.at_of (CC.out _) fun e w' h => ⟨h.1, hA _ _ h.2⟩ | with_reducible exact Calls.at_of (CD.out _) fun e w' h => ⟨h.1, hA _ _ h.2⟩)
    refine wpQuiet_nil ?_
    rintro _ ⟨p, rfl⟩
    go_wp2_with fail
    go_ret
    exact ⟨rfl, hB p⟩
  · obtain ⟨y0, y1, y2, y3, y4, y5, y6, y7, y8, z', hP⟩ : ∃ y0 y1 y2 y3 y4 y5 y6 y7 y8 z', Pair w.heap.size w w.heap.size wc.heap.size (axc st sp ac je lo hi ba og sg pa pn pc) (axc y0 y1 y2 y3 y4 y5 y6 y7 y8 ya v1.pn yc) pa pn z ya v1.pn z' ((w2.setCell ⟨wc.heap.size, 4, none⟩ (.int .i64 k)).setCell ⟨wc.heap.size, 5, none⟩ (.int .i64 (wrap64 (-k)))) := ⟨v1.st, v1.sp, v1.ac, v1.je, k, (wrap64 (-k)), v1.ba, v1.og, v1.sg, (fun i => v1.ps.getD i 0), (P4.put hwl hwn HPA.out HYA.out 4 (.int .i64 k)).put hwl hwn HPA.out HYA.out 5 (.int .i64 (wrap64 (-k)))⟩
    clear P4 own4 HYA HPA
    go_wp2_with fail
    have hs := hP.drew
    let S := Pair w.heap.size w w.heap.size wc.heap.size (axc st sp ac je lo hi ba og sg pa pn pc) (axc y0 y1 y2 y3 y4 y5 y6 y7 y8 ya v1.pn yc) pa pn z ya v1.pn z'
    have ca := fun p : At S => valid_any y0 y1 y2 y3 y4 y5 y6 y7 y8 ya v1.pn yc z' p.w p.ok.zy (by omega)
    have cb := fun p : At S => rvalid_any y0 y1 y2 y3 y4 y5 y6 y7 y8 ya v1.pn yc z' p.w p.ok.zy (by omega)
    have cc := fun p : At S => valid_any st sp ac je lo hi ba og sg pa pn pc z p.w p.ok.zr (by omega)
    have cd := fun p : At S => rvalid_any st sp ac je lo hi ba og sg pa pn pc z p.w p.ok.zr (by omega)
    generalize validB y0 y1 y2 y3 y4 y5 y6 y7 y8 v1.pn z' = R1 at ca cb
    generalize validB st sp ac je lo hi ba og sg pn z = R2 at cc cd
    have hA : ∀ (p : At S) w', Below p.w.heap.size p.w w' → S w' := fun p w' h => p.ok.below h
    have hB : ∀ p : At S, Below w.heap.size w p.w := fun p => p.ok.bel
    have a0 : ∀ p : At S, p.w.cell? ⟨wc.heap.size, 0, none⟩ = some (.int .i64 y0) := fun p => p.ok.y.cell' 0 rfl
    have a1 : ∀ p : At S, p.w.cell? ⟨wc.heap.size, 1, none⟩ = some (.int .i64 y1) := fun p => p.ok.y.cell' 1 rfl
    have a2 : ∀ p : At S, p.w.cell? ⟨wc.heap.size, 2, none⟩ = some (.int .i64 y2) := fun p => p.ok.y.cell' 2 rfl
    have a3 : ∀ p : At S, p.w.cell? ⟨wc.heap.size, 3, none⟩ = some (.int .i64 y3) := fun p => p.ok.y.cell' 3 rfl
    have a4 : ∀ p : At S, p.w.cell? ⟨wc.heap.size, 4, none⟩ = some (.int .i64 y4) := fun p => p.ok.y.cell' 4 rfl
    have a5 : ∀ p : At S, p.w.cell? ⟨wc.heap.size, 5, none⟩ = some (.int .i64 y5) := fun p => p.ok.y.cell' 5 rfl
    have a6 : ∀ p : At S, p.w.cell? ⟨wc.heap.size, 6, none⟩ = some (.int .i64 y6) := fun p => p.ok.y.cell' 6 rfl
    have a7 : ∀ p : At S, p.w.cell? ⟨wc.heap.size, 7, none⟩ = some (.int .i64 y7) := fun p => p.ok.y.cell' 7 rfl
    have a8 : ∀ p : At S, p.w.cell? ⟨wc.heap.size, 8, none⟩ = some (.int .i64 y8) := fun p => p.ok.y.cell' 8 rfl
    have a9 : ∀ p : At S, p.w.cell? ⟨wc.heap.size, 9, none⟩ = some (.slice ya v1.pn yc) := fun p => p.ok.y.cell' 9 rfl
    have b0 : ∀ p : At S, p.w.cell? ⟨w.heap.size, 0, none⟩ = some (.int .i64 st) := fun p => p.ok.r.cell' 0 rfl
    have b1 : ∀ p : At S, p.w.cell? ⟨w.heap.size, 1, none⟩ = some (.int .i64 sp) := fun p => p.ok.r.cell' 1 rfl
    have b2 : ∀ p : At S, p.w.cell? ⟨w.heap.size, 2, none⟩ = some (.int .i64 ac) := fun p => p.ok.r.cell' 2 rfl
    have b3 : ∀ p : At S, p.w.cell? ⟨w.heap.size, 3, none⟩ = some (.int .i64 je) := fun p => p.ok.r.cell' 3 rfl
    have b4 : ∀ p : At S, p.w.cell? ⟨w.heap.size, 4, none⟩ = some (.int .i64 lo) := fun p => p.ok.r.cell' 4 rfl
    have b5 : ∀ p : At S, p.w.cell? ⟨w.heap.size, 5, none⟩ = some (.int .i64 hi) := fun p => p.ok.r.cell' 5 rfl
    have b6 : ∀ p : At S, p.w.cell? ⟨w.heap.size, 6, none⟩ = some (.int .i64 ba) := fun p => p.ok.r.cell' 6 rfl
    have b7 : ∀ p : At S, p.w.cell? ⟨w.heap.size, 7, none⟩ = some (.int .i64 og) := fun p => p.ok.r.cell' 7 rfl
    have b8 : ∀ p : At S, p.w.cell? ⟨w.heap.size, 8, none⟩ = some (.int .i64 sg) := fun p => p.ok.r.cell' 8 rfl
    have b9 : ∀ p : At S, p.w.cell? ⟨w.heap.size, 9, none⟩ = some (.slice pa pn pc) := fun p => p.ok.r.cell' 9 rfl
    have inst : Nonempty (At S) := ⟨⟨_, hs⟩⟩
    have hs' : S _ := hs
    unfold axc at ca cb cc cd
    have CA := Lib.hid ca
    have CB := Lib.hid cb
    have CC := Lib.hid cc
    have CD := Lib.hid cd
    clear ca cb cc cd hs hP
    clear_value S
    refine wp_region_at S (by kernel_rfl) (by kernel_rfl) hs' ?_
    repeat go_big_quiet_step (first | with_reducible exact Calls.at_of (CA.out _) fun e w' h => ⟨h.1, hA _ _ h.2⟩ | with_reducible exact Calls.at_of (CB.out _) fun e w' h => ⟨h.1, hA _ _ h.2⟩ | with_reducible exact Calls.at_of (CC.out _) fun e w' h => ⟨h.1, hA _ _ h.2⟩ | with_reducible exact Calls.at_of (CD.out _) fun e w' h => ⟨h.1, hA _ _ h.2⟩)
    refine wpQuiet_nil ?_
    rintro _ ⟨p, rfl⟩
    go_wp2_with fail
    go_ret
    exact ⟨rfl, hB p⟩
  · obtain ⟨y0, y1, y2, y3, y4, y5, y6, y7, y8, z', hP⟩ : ∃ y0 y1 y2 y3 y4 y5 y6 y7 y8 z', Pair w.heap.size w w.heap.size wc.heap.size (axc st sp ac je lo hi ba og sg pa pn pc) (axc y0 y1 y2 y3 y4 y5 y6 y7 y8 ya v1.pn yc) pa pn z ya v1.pn z' (w2.setCell ⟨wc.heap.size, 6, none⟩ (.int .i64 k)) := ⟨v1.st, v1.sp, v1.ac, v1.je, (-16777216), 16777216, k, v1.og, v1.sg, (fun i => v1.ps.getD i 0), P4.put hwl hwn HPA.out HYA.out 6 (.int .i64 k)⟩
    clear P4 own4 HYA HPA
    go_wp2_with fail
    have hs := hP.drew
    let S := Pair w.heap.size w w.heap.size wc.heap.size (axc st sp ac je lo hi ba og sg pa pn pc) (axc y0 y1 y2 y3 y4 y5 y6 y7 y8 ya v1.pn yc) pa pn z ya v1.pn z'
    have ca := fun p : At S => valid_any y0 y1 y2 y3 y4 y5 y6 y7 y8 ya v1.pn yc z' p.w p.ok.zy (by omega)
    have cb := fun p : At S => rvalid_any y0 y1 y2 y3 y4 y5 y6 y7 y8 ya v1.pn yc z' p.w p.ok.zy (by omega)
    have cc := fun p : At S => valid_any st sp ac je lo hi ba og sg pa pn pc z p.w p.ok.zr (by omega)
    have cd := fun p : At S => rvalid_any st sp ac je lo hi ba og sg pa pn pc z p.w p.ok.zr (by omega)
    generalize validB y0 y1 y2 y3 y4 y5 y6 y7 y8 v1.pn z' = R1 at ca cb
    generalize validB st sp ac je lo hi ba og sg pn z = R2 at cc cd
    have hA : ∀ (p : At S) w', Below p.w.heap.size p.w w' → S w' := fun p w' h => p.ok.below h
    have hB : ∀ p : At S, Below w.heap.size w p.w := fun p => p.ok.bel
    have a0 : ∀ p : At S, p.w.cell? ⟨wc.heap.size, 0, none⟩ = some (.int .i64 y0) := fun p => p.ok.y.cell' 0 rfl
    have a1 : ∀ p : At S, p.w.cell? ⟨wc.heap.size, 1, none⟩ = some (.int .i64 y1) := fun p => p.ok.y.cell' 1 rfl
    have a2 : ∀ p : At S, p.w.cell? ⟨wc.heap.size, 2, none⟩ = some (.int .i64 y2) := fun p => p.ok.y.cell' 2 rfl
    have a3 : ∀ p : At S, p.w.cell? ⟨wc.heap.size, 3, none⟩ = some (.int .i64 y3) := fun p => p.ok.y.cell' 3 rfl
    have a4 : ∀ p : At S, p.w.cell? ⟨wc.heap.size, 4, none⟩ = some (.int .i64 y4) := fun p => p.ok.y.cell' 4 rfl
    have a5 : ∀ p : At S, p.w.cell? ⟨wc.heap.size, 5, none⟩ = some (.int .i64 y5) := fun p => p.ok.y.cell' 5 rfl
    have a6 : ∀ p : At S, p.w.cell? ⟨wc.heap.size, 6, none⟩ = some (.int .i64 y6) := fun p => p.ok.y.cell' 6 rfl
    have a7 : ∀ p : At S, p.w.cell? ⟨wc.heap.size, 7, none⟩ = some (.int .i64 y7) := fun p => p.ok.y.cell' 7 rfl
    have a8 : ∀ p : At S, p.w.cell? ⟨wc.heap.size, 8, none⟩ = some (.int .i64 y8) := fun p => p.ok.y.cell' 8 rfl
    have a9 : ∀ p : At S, p.w.cell? ⟨wc.heap.size, 9, none⟩ = some (.slice ya v1.pn yc) := fun p => p.ok.y.cell' 9 rfl
    have b0 : ∀ p : At S, p.w.cell? ⟨w.heap.size, 0, none⟩ = some (.int .i64 st) := fun p => p.ok.r.cell' 0 rfl
    have b1 : ∀ p : At S, p.w.cell? ⟨w.heap.size, 1, none⟩ = some (.int .i64 sp) := fun p => p.ok.r.cell' 1 rfl
    have b2 : ∀ p : At S, p.w.cell? ⟨w.heap.size, 2, none⟩ = some (.int .i64 ac) := fun p => p.ok.r.cell' 2 rfl
    have b3 : ∀ p : At S, p.w.cell? ⟨w.heap.size, 3, none⟩ = some (.int .i64 je) := fun p => p.ok.r.cell' 3 rfl
    have b4 : ∀ p : At S, p.w.cell? ⟨w.heap.size, 4, none⟩ = some (.int .i64 lo) := fun p => p.ok.r.cell' 4 rfl
    have b5 : ∀ p : At S, p.w.cell? ⟨w.heap.size, 5, none⟩ = some (.int .i64 hi) := fun p => p.ok.r.cell' 5 rfl
    have b6 : ∀ p : At S, p.w.cell? ⟨w.heap.size, 6, none⟩ = some (.int .i64 ba) := fun p => p.ok.r.cell' 6 rfl
    have b7 : ∀ p : At S, p.w.cell? ⟨w.heap.size, 7, none⟩ = some (.int .i64 og) := fun p => p.ok.r.cell' 7 rfl
    have b8 : ∀ p : At S, p.w.cell? ⟨w.heap.size, 8, none⟩ = some (.int .i64 sg) := fun p => p.ok.r.cell' 8 rfl
    have b9 : ∀ p : At S, p.w.cell? ⟨w.heap.size, 9, none⟩ = some (.slice pa pn pc) := fun p => p.ok.r.cell' 9 rfl
    have inst : Nonempty (At S) := ⟨⟨_, hs⟩⟩
    have hs' : S _ := hs
    unfold axc at ca cb cc cd
    have CA := Lib.hid ca
    have CB := Lib.hid cb
    have CC := Lib.hid cc
    have CD := Lib.hid cd
    clear ca cb cc cd hs hP
    clear_value S
    refine wp_region_at S (by kernel_rfl) (by kernel_rfl) hs' ?_
    repeat go_big_quiet_step (first | with_reducible exact Calls.at_of (CA.out _) fun e w' h => ⟨h.1, hA _ _ h.2⟩ | with_reducible exact Calls.at_of (CB.out _) fun e w' h => ⟨h.1, hA _ _ h.2⟩ | with_reducible exact Calls.at_of (CC.out _) fun e w' h => ⟨h.1, hA _ _ h.2⟩ | with_reducible exact Calls.at_of (CD.out _) fun e w' h => ⟨h.1, hA _ _ h.2⟩)
    refine wpQuiet_nil ?_
    rintro _ ⟨p, rfl⟩
    go_wp2_with fail
    go_ret
    exact ⟨rfl, hB p⟩
  · obtain ⟨y0, y1, y2, y3, y4, y5, y6, y7, y8, z', hP⟩ : ∃ y0 y1 y2 y3 y4 y5 y6 y7 y8 z', Pair w.heap.size w w.heap.size wc.heap.size (axc st sp ac je lo hi ba og sg pa pn pc) (axc y0 y1 y2 y3 y4 y5 y6 y7 y8 ya v1.pn yc) pa pn z ya v1.pn z' (w2.setCell ⟨wc.heap.size, 8, none⟩ (.int .i64 k)) := ⟨v1.st, v1.sp, v1.ac, v1.je, (-16777216), 16777216, v1.ba, v1.og, k, (fun i => v1.ps.getD i 0), P4.put hwl hwn HPA.out HYA.out 8 (.int .i64 k)⟩
    clear P4 own4 HYA HPA
    go_wp2_with fail
    have hs := hP.drew
    let S := Pair w.heap.size w w.heap.size wc.heap.size (axc st sp ac je lo hi ba og sg pa pn pc) (axc y0 y1 y2 y3 y4 y5 y6 y7 y8 ya v1.pn yc) pa pn z ya v1.pn z'
    have ca := fun p : At S => valid_any y0 y1 y2 y3 y4 y5 y6 y7 y8 ya v1.pn yc z' p.w p.ok.zy (by omega)
    have cb := fun p : At S => rvalid_any y0 y1 y2 y3 y4 y5 y6 y7 y8 ya v1.pn yc z' p.w p.ok.zy (by omega)
    have cc := fun p : At S => valid_any st sp ac je lo hi ba og sg pa pn pc z p.w p.ok.zr (by omega)
    have cd := fun p : At S => rvalid_any st sp ac je lo hi ba og sg pa pn pc z p.w p.ok.zr (by omega)
    generalize validB y0 y1 y2 y3 y4 y5 y6 y7 y8 v1.pn z' = R1 at ca cb
    generalize validB st sp ac je lo hi ba og sg pn z = R2 at cc cd
    have hA : ∀ (p : At S) w', Below p.w.heap.size p.w w' → S w' := fun p w' h => p.ok.below h
    have hB : ∀ p : At S, Below w.heap.size w p.w := fun p => p.ok.bel
    have a0 : ∀ p : At S, p.w.cell? ⟨wc.heap.size, 0, none⟩ = some (.int .i64 y0) := fun p => p.ok.y.cell' 0 rfl
    have a1 : ∀ p : At S, p.w.cell? ⟨wc.heap.size, 1, none⟩ = some (.int .i64 y1) := fun p => p.ok.y.cell' 1 rfl
    have a2 : ∀ p : At S, p.w.cell? ⟨wc.heap.size, 2, none⟩ = some (.int .i64 y2) := fun p => p.ok.y.cell' 2 rfl
    have a3 : ∀ p : At S, p.w.cell? ⟨wc.heap.size, 3, none⟩ = some (.int .i64 y3) := fun p => p.ok.y.cell' 3 rfl
    have a4 : ∀ p : At S, p.w.cell? ⟨wc.heap.size, 4, none⟩ = some (.int .i64 y4) := fun p => p.ok.y.cell' 4 rfl
    have a5 : ∀ p : At S, p.w.cell? ⟨wc.heap.size, 5, none⟩ = some (.int .i64 y5) := fun p => p.ok.y.cell' 5 rfl
    have a6 : ∀ p : At S, p.w.cell? ⟨wc.heap.size, 6, none⟩ = some (.int .i64 y6) := fun p => p.ok.y.cell' 6 rfl
    have a7 : ∀ p : At S, p.w.cell? ⟨wc.heap.size, 7, none⟩ = some (.int .i64 y7) := fun p => p.ok.y.cell' 7 rfl
    have a8 : ∀ p : At S, p.w.cell? ⟨wc.heap.size, 8, none⟩ = some (.int .i64 y8) := fun p => p.ok.y.cell' 8 rfl
    have a9 : ∀ p : At S, p.w.cell? ⟨wc.heap.size, 9, none⟩ = some (.slice ya v1.pn yc) := fun p => p.ok.y.cell' 9 rfl
    have b0 : ∀ p : At S, p.w.cell? ⟨w.heap.size, 0, none⟩ = some (.int .i64 st) := fun p => p.ok.r.cell' 0 rfl
    have b1 : ∀ p : At S, p.w.cell? ⟨w.heap.size, 1, none⟩ = some (.int .i64 sp) := fun p => p.ok.r.cell' 1 rfl
    have b2 : ∀ p : At S, p.w.cell? ⟨w.heap.size, 2, none⟩ = some (.int .i64 ac) := fun p => p.ok.r.cell' 2 rfl
    have b3 : ∀ p : At S, p.w.cell? ⟨w.heap.size, 3, none⟩ = some (.int .i64 je) := fun p => p.ok.r.cell' 3 rfl
    have b4 : ∀ p : At S, p.w.cell? ⟨w.heap.size, 4, none⟩ = some (.int .i64 lo) := fun p => p.ok.r.cell' 4 rfl
    have b5 : ∀ p : At S, p.w.cell? ⟨w.heap.size, 5, none⟩ = some (.int .i64 hi) := fun p => p.ok.r.cell' 5 rfl
    have b6 : ∀ p : At S, p.w.cell? ⟨w.heap.size, 6, none⟩ = some (.int .i64 ba) := fun p => p.ok.r.cell' 6 rfl
    have b7 : ∀ p : At S, p.w.cell? ⟨w.heap.size, 7, none⟩ = some (.int .i64 og) := fun p => p.ok.r.cell' 7 rfl
    have b8 : ∀ p : At S, p.w.cell? ⟨w.heap.size, 8, none⟩ = some (.int .i64 sg) := fun p => p.ok.r.cell' 8 rfl
    have b9 : ∀ p : At S, p.w.cell? ⟨w.heap.size, 9, none⟩ = some (.slice pa pn pc) := fun p => p.ok.r.cell' 9 rfl
    have inst : Nonempty (At S) := ⟨⟨_, hs⟩⟩
    have hs' : S _ := hs
    unfold axc at ca cb cc cd
    have CA := Lib.hid ca
    have CB := Lib.hid cb
    have CC := Lib.hid cc
    have CD := Lib.hid cd
    clear ca cb cc cd hs hP
    clear_value S
    refine wp_region_at S (by kernel_rfl) (by kernel_rfl) hs' ?_
    repeat go_big_quiet_step (first | with_reducible exact Calls.at_of (CA.out _) fun e w' h => ⟨h.1, hA _ _ h.2⟩ | with_reducible exact Calls.at_of (CB.out _) fun e w' h => ⟨h.1, hA _ _ h.2⟩ | with_reducible exact Calls.at_of (CC.out _) fun e w' h => ⟨h.1, hA _ _ h.2⟩ | with_reducible exact Calls.at_of (CD.out _) fun e w' h => ⟨h.1, hA _ _ h.2⟩)
    refine wpQuiet_nil ?_
    rintro _ ⟨p, rfl⟩
    go_wp2_with fail
    go_ret
    exact ⟨rfl, hB p⟩
  · obtain ⟨y0, y1, y2, y3, y4, y5, y6, y7, y8, z', hP⟩ : ∃ y0 y1 y2 y3 y4 y5 y6 y7 y8 z', Pair w.heap.size w w.heap.size wc.heap.size (axc st sp ac je lo hi ba og sg pa pn pc) (axc y0 y1 y2 y3 y4 y5 y6 y7 y8 ya v1.pn yc) pa pn z ya v1.pn z' (w2.setCell ⟨wc.heap.size, 7, none⟩ (.int .i64 k)) := ⟨v1.st, v1.sp, v1.ac, v1.je, (-16777216), 16777216, v1.ba, k, v1.sg, (fun i => v1.ps.getD i 0), P4.put hwl hwn HPA.out HYA.out 7 (.int .i64 k)⟩
    clear P4 own4 HYA HPA
    go_wp2_with fail
    have hs := hP.drew
    let S := Pair w.heap.size w w.heap.size wc.heap.size (axc st sp ac je lo hi ba og sg pa pn pc) (axc y0 y1 y2 y3 y4 y5 y6 y7 y8 ya v1.pn yc) pa pn z ya v1.pn z'
    have ca := fun p : At S => valid_any y0 y1 y2 y3 y4 y5 y6 y7 y8 ya v1.pn yc z' p.w p.ok.zy (by omega)
    have cb := fun p : At S => rvalid_any y0 y1 y2 y3 y4 y5 y6 y7 y8 ya v1.pn yc z' p.w p.ok.zy (by omega)
    have cc := fun p : At S => valid_any st sp ac je lo hi ba og sg pa pn pc z p.w p.ok.zr (by omega)
    have cd := fun p : At S => rvalid_any st sp ac je lo hi ba og sg pa pn pc z p.w p.ok.zr (by omega)
    generalize validB y0 y1 y2 y3 y4 y5 y6 y7 y8 v1.pn z' = R1 at ca cb
    generalize validB st sp ac je lo hi ba og sg pn z = R2 at cc cd
    have hA : ∀ (p : At S) w', Below p.w.heap.size p.w w' → S w' := fun p w' h => p.ok.below h
    have hB : ∀ p : At S, Below w.heap.size w p.w := fun p => p.ok.bel
    have a0 : ∀ p : At S, p.w.cell? ⟨wc.heap.size, 0, none⟩ = some (.int .i64 y0) := fun p => p.ok.y.cell' 0 rfl
    have a1 : ∀ p : At S, p.w.cell? ⟨wc.heap.size, 1, none⟩ = some (.int .i64 y1) := fun p => p.ok.y.cell' 1 rfl
    have a2 : ∀ p : At S, p.w.cell? ⟨wc.heap.size, 2, none⟩ = some (.int .i64 y2) := fun p => p.ok.y.cell' 2 rfl
    have a3 : ∀ p : At S, p.w.cell? ⟨wc.heap.size, 3, none⟩ = some (.int .i64 y3) := fun p => p.ok.y.cell' 3 rfl
    have a4 : ∀ p : At S, p.w.cell? ⟨wc.heap.size, 4, none⟩ = some (.int .i64 y4) := fun p => p.ok.y.cell' 4 rfl
    have a5 : ∀ p : At S, p.w.cell? ⟨wc.heap.size, 5, none⟩ = some (.int .i64 y5) := fun p => p.ok.y.cell' 5 rfl
    have a6 : ∀ p : At S, p.w.cell? ⟨wc.heap.size, 6, none⟩ = some (.int .i64 y6) := fun p => p.ok.y.cell' 6 rfl
    have a7 : ∀ p : At S, p.w.cell? ⟨wc.heap.size, 7, none⟩ = some (.int .i64 y7) := fun p => p.ok.y.cell' 7 rfl
    have a8 : ∀ p : At S, p.w.cell? ⟨wc.heap.size, 8, none⟩ = some (.int .i64 y8) := fun p => p.ok.y.cell' 8 rfl
    have a9 : ∀ p : At S, p.w.cell? ⟨wc.heap.size, 9, none⟩ = some (.slice ya v1.pn yc) := fun p => p.ok.y.cell' 9 rfl
    have b0 : ∀ p : At S, p.w.cell? ⟨w.heap.size, 0, none⟩ = some (.int .i64 st) := fun p => p.ok.r.cell' 0 rfl
    have b1 : ∀ p : At S, p.w.cell? ⟨w.heap.size, 1, none⟩ = some (.int .i64 sp) := fun p => p.ok.r.cell' 1 rfl
    have b2 : ∀ p : At S, p.w.cell? ⟨w.heap.size, 2, none⟩ = some (.int .i64 ac) := fun p => p.ok.r.cell' 2 rfl
    have b3 : ∀ p : At S, p.w.cell? ⟨w.heap.size, 3, none⟩ = some (.int .i64 je) := fun p => p.ok.r.cell' 3 rfl
    have b4 : ∀ p : At S, p.w.cell? ⟨w.heap.size, 4, none⟩ = some (.int .i64 lo) := fun p => p.ok.r.cell' 4 rfl
    have b5 : ∀ p : At S, p.w.cell? ⟨w.heap.size, 5, none⟩ = some (.int .i64 hi) := fun p => p.ok.r.cell' 5 rfl
    have b6 : ∀ p : At S, p.w.cell? ⟨w.heap.size, 6, none⟩ = some (.int .i64 ba) := fun p => p.ok.r.cell' 6 rfl
    have b7 : ∀ p : At S, p.w.cell? ⟨w.heap.size, 7, none⟩ = some (.int .i64 og) := fun p => p.ok.r.cell' 7 rfl
    have b8 : ∀ p : At S, p.w.cell? ⟨w.heap.size, 8, none⟩ = some (.int .i64 sg) := fun p => p.ok.r.cell' 8 rfl
    have b9 : ∀ p : At S, p.w.cell? ⟨w.heap.size, 9, none⟩ = some (.slice pa pn pc) := fun p => p.ok.r.cell' 9 rfl
    have inst : Nonempty (At S) := ⟨⟨_, hs⟩⟩
    have hs' : S _ := hs
    unfold axc at ca cb cc cd
    have CA := Lib.hid ca
    have CB := Lib.hid cb
    have CC := Lib.hid cc
    have CD := Lib.hid cd
    clear ca cb cc cd hs hP
    clear_value S
    refine wp_region_at S (by kernel_rfl) (by kernel_rfl) hs' ?_
    repeat go_big_quiet_step (first | with_reducible exact Calls.at_of (CA.out _) fun e w' h => ⟨h.1, hA _ _ h.2⟩ | with_reducible exact Calls.at_of (CB.out _) fun e w' h => ⟨h.1, hA _ _ h.2⟩ | with_reducible exact Calls.at_of (CC.out _) fun e w' h => ⟨h.1, hA _ _ h.2⟩ | with_reducible exact Calls.at_of (CD.out _) fun e w' h => ⟨h.1, hA _ _ h.2⟩)
    refine wpQuiet_nil ?_
    rintro _ ⟨p, rfl⟩
    go_wp2_with fail
    go_ret
    exact ⟨rfl, hB p⟩
  · by_cases h0 : v1.pn = 0
    · have d0 : decide ((0 : Int) < (v1.pn : Int)) = false := by simp; omega
      have d0' : decide (0 < v1.pn) = false := by simp; omega
      have H0 := Lib.hid h0
      clear h0
      obtain ⟨y0, y1, y2, y3, y4, y5, y6, y7, y8, z', hP⟩ : ∃ y0 y1 y2 y3 y4 y5 y6 y7 y8 z', Pair w.heap.size w w.heap.size wc.heap.size (axc st sp ac je lo hi ba og sg pa pn pc) (axc y0 y1 y2 y3 y4 y5 y6 y7 y8 ya v1.pn yc) pa pn z ya v1.pn z' w2 := ⟨v1.st, v1.sp, v1.ac, v1.je, (-16777216), 16777216, v1.ba, v1.og, v1.sg, (fun i => v1.ps.getD i 0), P4⟩
      clear P4 own4 HYA HPA
      go_wp2_with fail
      have hs := hP.drew
      let S := Pair w.heap.size w w.heap.size wc.heap.size (axc st sp ac je lo hi ba og sg pa pn pc) (axc y0 y1 y2 y3 y4 y5 y6 y7 y8 ya v1.pn yc) pa pn z ya v1.pn z'
      have ca := fun p : At S => valid_any y0 y1 y2 y3 y4 y5 y6 y7 y8 ya v1.pn yc z' p.w p.ok.zy (by omega)
      have cb := fun p : At S => rvalid_any y0 y1 y2 y3 y4 y5 y6 y7 y8 ya v1.pn yc z' p.w p.ok.zy (by omega)
      have cc := fun p : At S => valid_any st sp ac je lo hi ba og sg pa pn pc z p.w p.ok.zr (by omega)
      have cd := fun p : At S => rvalid_any st sp ac je lo hi ba og sg pa pn pc z p.w p.ok.zr (by omega)
      generalize validB y0 y1 y2 y3 y4 y5 y6 y7 y8 v1.pn z' = R1 at ca cb
      generalize validB st sp ac je lo hi ba og sg pn z = R2 at cc cd
      have hA : ∀ (p : At S) w', Below p.w.heap.size p.w w' → S w' := fun p w' h => p.ok.below h
      have hB : ∀ p : At S, Below w.heap.size w p.w := fun p => p.ok.bel
      have a0 : ∀ p : At S, p.w.cell? ⟨wc.heap.size, 0, none⟩ = some (.int .i64 y0) := fun p => p.ok.y.cell' 0 rfl
      have a1 : ∀ p : At S, p.w.cell? ⟨wc.heap.size, 1, none⟩ = some (.int .i64 y1) := fun p => p.ok.y.cell' 1 rfl
      have a2 : ∀ p : At S, p.w.cell? ⟨wc.heap.size, 2, none⟩ = some (.int .i64 y2) := fun p => p.ok.y.cell' 2 rfl
      have a3 : ∀ p : At S, p.w.cell? ⟨wc.heap.size, 3, none⟩ = some (.int .i64 y3) := fun p => p.ok.y.cell' 3 rfl
      have a4 : ∀ p : At S, p.w.cell? ⟨wc.heap.size, 4, none⟩ = some (.int .i64 y4) := fun p => p.ok.y.cell' 4 rfl
      have a5 : ∀ p : At S, p.w.cell? ⟨wc.heap.size, 5, none⟩ = some (.int .i64 y5) := fun p => p.ok.y.cell' 5 rfl
      have a6 : ∀ p : At S, p.w.cell? ⟨wc.heap.size, 6, none⟩ = some (.int .i64 y6) := fun p => p.ok.y.cell' 6 rfl
      have a7 : ∀ p : At S, p.w.cell? ⟨wc.heap.size, 7, none⟩ = some (.int .i64 y7) := fun p => p.ok.y.cell' 7 rfl
      have a8 : ∀ p : At S, p.w.cell? ⟨wc.heap.size, 8, none⟩ = some (.int .i64 y8) := fun p => p.ok.y.cell' 8 rfl
      have a9 : ∀ p : At S, p.w.cell? ⟨wc.heap.size, 9, none⟩ = some (.slice ya v1.pn yc) := fun p => p.ok.y.cell' 9 rfl
      have b0 : ∀ p : At S, p.w.cell? ⟨w.heap.size, 0, none⟩ = some (.int .i64 st) := fun p => p.ok.r.cell' 0 rfl
      have b1 : ∀ p : At S, p.w.cell? ⟨w.heap.size, 1, none⟩ = some (.int .i64 sp) := fun p => p.ok.r.cell' 1 rfl
      have b2 : ∀ p : At S, p.w.cell? ⟨w.heap.size, 2, none⟩ = some (.int .i64 ac) := fun p => p.ok.r.cell' 2 rfl
      have b3 : ∀ p : At S, p.w.cell? ⟨w.heap.size, 3, none⟩ = some (.int .i64 je) := fun p => p.ok.r.cell' 3 rfl
      have b4 : ∀ p : At S, p.w.cell? ⟨w.heap.size, 4, none⟩ = some (.int .i64 lo) := fun p => p.ok.r.cell' 4 rfl
      have b5 : ∀ p : At S, p.w.cell? ⟨w.heap.size, 5, none⟩ = some (.int .i64 hi) := fun p => p.ok.r.cell' 5 rfl
      have b6 : ∀ p : At S, p.w.cell? ⟨w.heap.size, 6, none⟩ = some (.int .i64 ba) := fun p => p.ok.r.cell' 6 rfl
      have b7 : ∀ p : At S, p.w.cell? ⟨w.heap.size, 7, none⟩ = some (.int .i64 og) := fun p => p.ok.r.cell' 7 rfl
      have b8 : ∀ p : At S, p.w.cell? ⟨w.heap.size, 8, none⟩ = some (.int .i64 sg) := fun p => p.ok.r.cell' 8 rfl
      have b9 : ∀ p : At S, p.w.cell? ⟨w.heap.size, 9, none⟩ = some (.slice pa pn pc) := fun p => p.ok.r.cell' 9 rfl
      have inst : Nonempty (At S) := ⟨⟨_, hs⟩⟩
      have hs' : S _ := hs
      unfold axc at ca cb cc cd
      have CA := Lib.hid ca
      have CB := Lib.hid cb
      have CC := Lib.hid cc
      have CD := Lib.hid cd
      clear ca cb cc cd hs hP
      clear_value S
      refine wp_region_at S (by kernel_rfl) (by kernel_rfl) hs' ?_
      repeat go_big_quiet_step (first | with_reducible exact Calls.at_of (CA.out _) fun e w' h => ⟨h.1, hA _ _ h.2⟩ | with_reducible exact Calls.at_of (CB.out _) fun e w' h => ⟨h.1, hA _ _ h.2⟩ | with_reducible exact Calls.at_of (CC.out _) fun e w' h => ⟨h.1, hA _ _ h.2⟩ | with_reducible exact Calls.at_of (CD.out _) fun e w' h => ⟨h.1, hA _ _ h.2⟩)
      refine wpQuiet_nil ?_
      rintro _ ⟨p, rfl⟩
      go_wp2_with fail
      go_ret
      exact ⟨rfl, hB p⟩
    · have d0 : decide ((0 : Int) < (v1.pn : Int)) = true := by simp; omega
      have d0' : decide (0 < v1.pn) = true := by simp; omega
      have d1 : (0 : Int) ≤ (v1.pn : Int) - 1 := by omega
      have d2 : (v1.pn : Int) - 1 < (v1.pn : Int) := by omega
      have d3 : ((v1.pn : Int) - 1).toNat = v1.pn - 1 := by omega
      rcases own4.2 with ⟨h1, _⟩ | ⟨g, cap, cur, h1, hgb, hgc, _⟩
      · injection h1 with _ h1
        exact absurd h1 h0
      injection h1 with h1 _ h2
      subst h1
      subst h2
      have bg : Blk w2 g 3 cur := hgc
      have hgy : g ≠ wc.heap.size := HYA.out g 0 rfl (by omega)
      obtain ⟨b', o', eb, _, cg⟩ := P4.zy (v1.pn - 1) (by omega)
      cases eb
      rw [Nat.zero_add] at cg
      have fg := bg.frozen (v1.pn - 1)
      have hP0 : Pair w.heap.size w w.heap.size wc.heap.size (axc st sp ac je lo hi ba og sg pa pn pc) (axc v1.st v1.sp v1.ac v1.je (-16777216) 16777216 v1.ba v1.og v1.sg (some ⟨g, 0, none⟩) v1.pn yc) pa pn z (some ⟨g, 0, none⟩) v1.pn (fun i => if i = v1.pn - 1 then k else v1.ps.getD i 0) (w2.setCell ⟨g, v1.pn - 1, none⟩ (.int .i64 k)) :=
        ⟨P4.r.far (by dsimp only; omega) _, P4.y.far (by dsimp only; omega) _, P4.bel.setCell (by dsimp only; omega) _, by simpa [World.setCell] using P4.size,
          fun j hj => by
            obtain ⟨b, o, e, hb, hc⟩ := P4.zr j hj
            obtain ⟨b', o', e', hb', _⟩ := HZ.out j hj
            rw [e] at e'
            cases e'
            exact ⟨b, o, e, by simpa [World.setCell] using hb, by rw [World.cell?_setCell_other _ _ _ _ (by intro e'; injection e' with e1; omega)]; exact hc⟩,
          fun j hj => by
            obtain ⟨b, o, e, hb, hc⟩ := P4.zy j hj
            cases e
            refine ⟨g, 0, rfl, by simpa [World.setCell] using hb, ?_⟩
            rw [Nat.zero_add] at hc ⊢
            by_cases ej : j = v1.pn - 1
            · rw [if_pos ej, ej]
              exact World.cell?_setCell_same' _ _ _ (by rw [cg]; rfl)
            · rw [if_neg ej, World.cell?_setCell_other _ _ _ _ (by intro e'; injection e' with _ e1; omega)]
              exact hc⟩
      obtain ⟨y0, y1, y2, y3, y4, y5, y6, y7, y8, z', hP⟩ : ∃ y0 y1 y2 y3 y4 y5 y6 y7 y8 z', Pair w.heap.size w w.heap.size wc.heap.size (axc st sp ac je lo hi ba og sg pa pn pc) (axc y0 y1 y2 y3 y4 y5 y6 y7 y8 (some ⟨g, 0, none⟩) v1.pn yc) pa pn z (some ⟨g, 0, none⟩) v1.pn z' (w2.setCell ⟨g, v1.pn - 1, none⟩ (.int .i64 k)) := ⟨v1.st, v1.sp, v1.ac, v1.je, (-16777216), 16777216, v1.ba, v1.og, v1.sg, (fun i => if i = v1.pn - 1 then k else v1.ps.getD i 0), hP0⟩
      clear hP0 P4 own4 HYA HPA
      go_wp2_with fail
      have hs := hP.drew
      let S := Pair w.heap.size w w.heap.size wc.heap.size (axc st sp ac je lo hi ba og sg pa pn pc) (axc y0 y1 y2 y3 y4 y5 y6 y7 y8 (some ⟨g, 0, none⟩) v1.pn yc) pa pn z (some ⟨g, 0, none⟩) v1.pn z'
      have ca := fun p : At S => valid_any y0 y1 y2 y3 y4 y5 y6 y7 y8 (some ⟨g, 0, none⟩) v1.pn yc z' p.w p.ok.zy (by omega)
      have cb := fun p : At S => rvalid_any y0 y1 y2 y3 y4 y5 y6 y7 y8 (some ⟨g, 0, none⟩) v1.pn yc z' p.w p.ok.zy (by omega)
      have cc := fun p : At S => valid_any st sp ac je lo hi ba og sg pa pn pc z p.w p.ok.zr (by omega)
      have cd := fun p : At S => rvalid_any st sp ac je lo hi ba og sg pa pn pc z p.w p.ok.zr (by omega)
      generalize validB y0 y1 y2 y3 y4 y5 y6 y7 y8 v1.pn z' = R1 at ca cb
      generalize validB st sp ac je lo hi ba og sg pn z = R2 at cc cd
      have hA : ∀ (p : At S) w', Below p.w.heap.size p.w w' → S w' := fun p w' h => p.ok.below h
      have hB : ∀ p : At S, Below w.heap.size w p.w := fun p => p.ok.bel
      have a0 : ∀ p : At S, p.w.cell? ⟨wc.heap.size, 0, none⟩ = some (.int .i64 y0) := fun p => p.ok.y.cell' 0 rfl
      have a1 : ∀ p : At S, p.w.cell? ⟨wc.heap.size, 1, none⟩ = some (.int .i64 y1) := fun p => p.ok.y.cell' 1 rfl
      have a2 : ∀ p : At S, p.w.cell? ⟨wc.heap.size, 2, none⟩ = some (.int .i64 y2) := fun p => p.ok.y.cell' 2 rfl
      have a3 : ∀ p : At S, p.w.cell? ⟨wc.heap.size, 3, none⟩ = some (.int .i64 y3) := fun p => p.ok.y.cell' 3 rfl
      have a4 : ∀ p : At S, p.w.cell? ⟨wc.heap.size, 4, none⟩ = some (.int .i64 y4) := fun p => p.ok.y.cell' 4 rfl
      have a5 : ∀ p : At S, p.w.cell? ⟨wc.heap.size, 5, none⟩ = some (.int .i64 y5) := fun p => p.ok.y.cell' 5 rfl
      have a6 : ∀ p : At S, p.w.cell? ⟨wc.heap.size, 6, none⟩ = some (.int .i64 y6) := fun p => p.ok.y.cell' 6 rfl
      have a7 : ∀ p : At S, p.w.cell? ⟨wc.heap.size, 7, none⟩ = some (.int .i64 y7) := fun p => p.ok.y.cell' 7 rfl
      have a8 : ∀ p : At S, p.w.cell? ⟨wc.heap.size, 8, none⟩ = some (.int .i64 y8) := fun p => p.ok.y.cell' 8 rfl
      have a9 : ∀ p : At S, p.w.cell? ⟨wc.heap.size, 9, none⟩ = some (.slice (some ⟨g, 0, none⟩) v1.pn yc) := fun p => p.ok.y.cell' 9 rfl
      have b0 : ∀ p : At S, p.w.cell? ⟨w.heap.size, 0, none⟩ = some (.int .i64 st) := fun p => p.ok.r.cell' 0 rfl
      have b1 : ∀ p : At S, p.w.cell? ⟨w.heap.size, 1, none⟩ = some (.int .i64 sp) := fun p => p.ok.r.cell' 1 rfl
      have b2 : ∀ p : At S, p.w.cell? ⟨w.heap.size, 2, none⟩ = some (.int .i64 ac) := fun p => p.ok.r.cell' 2 rfl
      have b3 : ∀ p : At S, p.w.cell? ⟨w.heap.size, 3, none⟩ = some (.int .i64 je) := fun p => p.ok.r.cell' 3 rfl
      have b4 : ∀ p : At S, p.w.cell? ⟨w.heap.size, 4, none⟩ = some (.int .i64 lo) := fun p => p.ok.r.cell' 4 rfl
      have b5 : ∀ p : At S, p.w.cell? ⟨w.heap.size, 5, none⟩ = some (.int .i64 hi) := fun p => p.ok.r.cell' 5 rfl
      have b6 : ∀ p : At S, p.w.cell? ⟨w.heap.size, 6, none⟩ = some (.int .i64 ba) := fun p => p.ok.r.cell' 6 rfl
      have b7 : ∀ p : At S, p.w.cell? ⟨w.heap.size, 7, none⟩ = some (.int .i64 og) := fun p => p.ok.r.cell' 7 rfl
      have b8 : ∀ p : At S, p.w.cell? ⟨w.heap.size, 8, none⟩ = some (.int .i64 sg) := fun p => p.ok.r.cell' 8 rfl
      have b9 : ∀ p : At S, p.w.cell? ⟨w.heap.size, 9, none⟩ = some (.slice pa pn pc) := fun p => p.ok.r.cell' 9 rfl
      have inst : Nonempty (At S) := ⟨⟨_, hs⟩⟩
      have hs' : S _ := hs
      unfold axc at ca cb cc cd
      have CA := Lib.hid ca
      have CB := Lib.hid cb
      have CC := Lib.hid cc
      have CD := Lib.hid cd
      clear ca cb cc cd hs hP
      clear_value S
      refine wp_region_at S (by kernel_rfl) (by kernel_rfl) hs' ?_
      repeat go_big_quiet_step (first | with_reducible exact Calls.at_of (CA.out _) fun e w' h => ⟨h.1, hA _ _ h.2⟩ | with_reducible exact Calls.at_of (CB.out _) fun e w' h => ⟨h.1, hA _ _ h.2⟩ | with_reducible exact Calls.at_of (CC.out _) fun e w' h => ⟨h.1, hA _ _ h.2⟩ | with_reducible exact Calls.at_of (CD.out _) fun e w' h => ⟨h.1, hA _ _ h.2⟩)
      refine wpQuiet_nil ?_
      rintro _ ⟨p, rfl⟩
      go_wp2_with fail
      go_ret
      exact ⟨rfl, hB p⟩
end Go.Proofs.Ytdopbdcfompodaa
