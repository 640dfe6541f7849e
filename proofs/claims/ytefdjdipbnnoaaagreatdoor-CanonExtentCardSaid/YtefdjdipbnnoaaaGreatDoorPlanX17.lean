/-
  Plain: the reference's extent is the program's; cncref17.End.
-/
import Derived.Test.YtefdjdipbnnoaaaGreatDoorRIns17
import Derived.Test.YtefdjdipbnnoaaaGreatDoorRCOut17
namespace Go.Proofs.YtefdjdipbnnoaaaGreatDoor
open Go Go.RowKit
set_option linter.unusedVariables false
set_option linter.unusedSimpArgs false

def rextP (i : It) (r : Int) (d : Int × Int) : V3 := (soX i.plane (i.cU + r * d.1) (i.cW + r * d.2) i.fH, soY i.plane (i.cU + r * d.1) (i.cW + r * d.2) i.fH, soZ i.plane (i.cU + r * d.1) (i.cW + r * d.2) i.fH)
def rextS (i : It) (r : Int) (a : V3 × V3) (d : Int × Int) : V3 × V3 := if rinsV i d.1 d.2 = true then (boxLo a.1 (rextP i r d), boxHi a.2 (rextP i r d)) else a
/-- cncref13.Extent. -/
def rextI (i : It) : V3 × V3 := if i.kind = 3 then dirL.foldl (rextS i (extR i)) (boxLo i.from3 i.to3, boxHi i.from3 i.to3) else (boxLo i.from3 i.to3, boxHi i.from3 i.to3)
theorem ins_eq {i : It} (h : arcE i = 0) {d : Int × Int} (hd : d ∈ dirL) : rinsV i d.1 d.2 = insV i d.1 d.2 := by
  have ha := arcE_arg h
  have hfit : fitB (i.fU - i.cU) (i.fW - i.cW) (i.tU - i.cU) (i.tW - i.cW) i.full = true := by
    unfold arcE at h
    rw [if_pos ha] at h
    split at h
    · assumption
    · cases h
  unfold arcArg at ha
  simp only [Bool.and_eq_true, decide_eq_true_eq] at ha
  obtain ⟨_, _, hwf, hwt, hwc, hdir, _⟩ := ha
  have bf := fl_bd (p := i.plane) hwf
  have bt := fl_bd (p := i.plane) hwt
  have bc := fl_bd (p := i.plane) hwc
  have b1 : -1048576 ≤ i.fU ∧ i.fU ≤ 1048576 := bf.1
  have b2 : -1048576 ≤ i.fW ∧ i.fW ≤ 1048576 := bf.2
  have b3 : -1048576 ≤ i.tU ∧ i.tU ≤ 1048576 := bt.1
  have b4 : -1048576 ≤ i.tW ∧ i.tW ≤ 1048576 := bt.2
  have b5 : -1048576 ≤ i.cU ∧ i.cU ≤ 1048576 := bc.1
  have b6 : -1048576 ≤ i.cW ∧ i.cW ≤ 1048576 := bc.2
  have e1 : wS i.fU i.cU = i.fU - i.cU := wS_eq (by omega)
  have e2 : wS i.fW i.cW = i.fW - i.cW := wS_eq (by omega)
  have e3 : wS i.tU i.cU = i.tU - i.cU := wS_eq (by omega)
  have e4 : wS i.tW i.cW = i.tW - i.cW := wS_eq (by omega)
  unfold rinsV insV
  rw [e1, e2, e3, e4]
  generalize i.fU - i.cU = au at *
  generalize i.fW - i.cW = aw at *
  generalize i.tU - i.cU = bu at *
  generalize i.tW - i.cW = bw at *
  cases hf : i.full
  rotate_left
  · rfl
  rw [Bool.false_or, Bool.false_or]
  unfold fitB at hfit
  rw [hf] at hfit
  simp only [Bool.and_eq_true, decide_eq_true_eq] at hfit
  obtain ⟨n1, n2, _, n4⟩ := hfit
  rcases hdir with hdir | hdir
  · rw [hdir, if_neg (by decide)]
    exact sweep_pos _ _ _ _ _ _
  · rw [hdir, if_pos (by decide)]
    refine sweep_neg _ _ _ _ _ _ ?_ ?_ ?_ ?_
    · rintro ⟨rfl, rfl⟩
      simp [inn] at n1
    · rintro ⟨rfl, rfl⟩
      simp [inn] at n2
    · intro hc
      have : aliB au aw bu bw = true := decide_eq_true hc
      simp [this] at n4
    · simp only [dirL, List.mem_cons, List.not_mem_nil, or_false] at hd
      rcases hd with rfl | rfl | rfl | rfl <;> simp
theorem valid_arcE {i : It} (h : validI i = true) (hk : i.kind = 3) : arcE i = 0 := by
  unfold validI at h
  rw [show motK i.kind = true by unfold motK; rw [hk]; rfl] at h
  unfold motionB at h
  simp only [if_true, Bool.and_eq_true, decide_eq_true_eq] at h
  have := h.2.2.2.2.2.2.1
  rwa [if_pos hk] at this
theorem rext_eq {i : It} (h : validI i = true) : rextI i = extI i := by
  unfold rextI extI
  split
  · rename_i hk
    have he := valid_arcE h hk
    have ha := arcE_arg he
    have hh : i.fH = i.cH := by
      unfold arcArg at ha
      simp only [Bool.and_eq_true, decide_eq_true_eq] at ha
      exact ha.2.2.2.2.2.2
    have hall : ∀ (l : List (Int × Int)) (e : V3 × V3), (∀ d ∈ l, d ∈ dirL) → l.foldl (rextS i (extR i)) e = l.foldl (extS i (extR i)) e := by
      intro l
      induction l with
      | nil => intro e _; rfl
      | cons d l ih =>
        intro e hl
        have h1 : rextS i (extR i) e d = extS i (extR i) e d := by
          unfold rextS extS rextP extP
          rw [ins_eq he (hl d (List.mem_cons_self ..)), hh]
        show l.foldl _ (rextS i (extR i) e d) = l.foldl _ (extS i (extR i) e d)
        rw [h1]
        exact ih _ fun d' hd' => hl d' (List.mem_cons_of_mem _ hd')
    exact hall dirL _ fun d hd => hd
  · rfl
theorem walkAt_take {l : List It} {k : Nat} {x : It} (h : l[k]? = some x) (p : V3) : walkAt p (l.take (k + 1)) = if motK x.kind = true then x.to3 else walkAt p (l.take k) := by
  rw [take_snoc h, walkAt_append]
  rfl
attribute [local go_sem] itA_0 itA_1 itA_2 itA_3 itA_4 itA_5 itA_6 itA_7 itA_8 itA_9 itA_10 itA_11 itA_12 itA_13 itA_14 itA_15 itA_16 itA_17 itA_18 itA_19 itA_20 itA_21
set_option maxRecDepth 100000 in
set_option maxHeartbeats 4000000 in
theorem rend_any (a : Option Addr) (c : Nat) (l : List It) (p : V3) (w : World) (h : ItsAt w a l) (hn : l.length ≤ 9223372036854775807) :
    Calls Tryz.prog 16 #[.slice a l.length c, .agg #[.int .i64 p.1, .int .i64 p.2.1, .int .i64 p.2.2]] w fun e w' => e = .returned (.agg (v3A (walkAt p l))) ∧ Below w.heap.size w w' := by
  obtain ⟨n, hln⟩ : ∃ n, l.length = n := ⟨_, rfl⟩
  have HLN := Lib.hid hln
  have H := Lib.hid h
  have HG := Lib.hid (fun k (hk : k < n) => (⟨l[k]'(by omega), List.getElem?_eq_getElem _⟩ : ∃ x, l[k]? = some x))
  obtain ⟨q, hq⟩ : ∃ q, walkAt p l = q := ⟨_, rfl⟩
  have HQ := Lib.hid hq
  rw [hln] at hn ⊢
  rw [hq]
  clear h hln hq
  go_enter Tryz.func16, Tryz.ntmps16
  go_wp2_with fail
  go_loopw [5] (fun s5 wr => ∃ (k : Nat) (v : V3), k ≤ n ∧ s5 = .int .i64 k ∧ walkAt p (l.take k) = v ∧ Blk wr w.heap.size 23 #[.int .i64 v.1, .int .i64 v.2.1, .int .i64 v.2.2] ∧ Blk wr (w.heap.size + 1) 23 #[.int .i64 0, .int .i64 0, .int .i64 0] ∧ Below w.heap.size w wr)
    (fun s5 _ => n - (intOf s5).toNat)
  case atStart => exact ⟨0, p, by omega, rfl, rfl, (Blk.new _ _ _).alloc _, blk_new1 _ _ _ _, ((Below.refl _ _).alloc (Nat.le_refl _) _).alloc (by simp) _⟩
  case round =>
    obtain ⟨k, v, hk, rfl, hv, hp, hz, bel⟩ := hrel
    have HVV := Lib.hid hv
    have HP := Lib.hid hp
    have HZ := Lib.hid hz
    have BEL := Lib.hid bel
    have sz := bel.size
    have v0 : wr.cell? ⟨w.heap.size, 0, none⟩ = some (.int .i64 v.1) := hp.cell' 0 rfl
    have v1 : wr.cell? ⟨w.heap.size, 1, none⟩ = some (.int .i64 v.2.1) := hp.cell' 1 rfl
    have v2 : wr.cell? ⟨w.heap.size, 2, none⟩ = some (.int .i64 v.2.2) := hp.cell' 2 rfl
    clear hv hp hz bel
    by_cases hlt : k < n
    · obtain ⟨x, hx⟩ := HG.out k hlt
      have d0 : decide (k < n) = true := decide_eq_true hlt
      obtain ⟨b, o, rfl, _, hc⟩ := H.out.below BEL.out k x hx
      have c0 := hc 0 _ rfl
      have c5 := hc 5 _ rfl
      have c6 := hc 6 _ rfl
      have c7 := hc 7 _ rfl
      simp only [Nat.add_zero] at c0
      have HX := Lib.hid hx
      have i1 : (0 : Int) ≤ (k : Int) := by omega
      have i2 : (k : Int) < (n : Int) := by omega
      have f0 := HP.out.frozen 0
      have f1 := HP.out.frozen 1
      have f2 := HP.out.frozen 2
      have KM := rmotionK_any x.kind wr
      obtain ⟨mt, hmt⟩ : ∃ b, motK x.kind = b := ⟨_, rfl⟩
      rw [hmt] at KM
      have KM := Lib.hid KM
      have HMT := Lib.hid hmt
      clear hx hc hmt
      go_wp2_with fail
      refine KM.out.mono ?_
      rintro e w' ⟨rfl, rfl⟩
      cases mt
      · go_wp2_with fail
        go_roundw
        case rel => exact ⟨k + 1, v, by omega, by go_num, by rw [walkAt_take HX.out, if_neg (by rw [HMT.out]; decide)]; exact HVV.out, HP.out, HZ.out, BEL.out⟩
        case measure => simp [intOf] <;> omega
      · go_wp2_with fail
        go_roundw
        case rel => exact ⟨k + 1, x.to3, by omega, by go_num, by rw [walkAt_take HX.out, if_pos HMT.out], ((HP.out.put 0 _).put 1 _).put 2 _, Blk.skip (Blk.skip (Blk.skip HZ.out (by show w.heap.size + 1 ≠ w.heap.size; omega) _) (by show w.heap.size + 1 ≠ w.heap.size; omega) _) (by show w.heap.size + 1 ≠ w.heap.size; omega) _, ((BEL.out.setCell (Nat.le_refl _) _).setCell (Nat.le_refl _) _).setCell (Nat.le_refl _) _⟩
        case measure => simp [intOf] <;> omega
    · obtain rfl : k = n := by omega
      have d0 : decide (k < k) = false := by simp
      have EQ : q = v := by rw [← HQ.out, ← HVV.out, List.take_of_length_le (by have := HLN.out; omega)]
      subst EQ
      have f0 := HZ.out.frozen 0
      have f1 := HZ.out.frozen 1
      have f2 := HZ.out.frozen 2
      have z0 := HZ.out.cell' 0 rfl
      have z1 := HZ.out.cell' 1 rfl
      have z2 := HZ.out.cell' 2 rfl
      go_wp2_with fail
      refine bodyPost_ret (results_cell_row rfl _ _ (w.heap.size + 1) 23 #[.int .i64 q.1, .int .i64 q.2.1, .int .i64 q.2.2] (0, 0) _ rfl (((HZ.out.put 0 _).put 1 _).put 2 _) Tryz.underlying23 rfl (by kernel_rfl)) rfl ?_
      exact ⟨rfl, ((BEL.out.setCell (by show w.heap.size ≤ w.heap.size + 1; omega) _).setCell (by show w.heap.size ≤ w.heap.size + 1; omega) _).setCell (by show w.heap.size ≤ w.heap.size + 1; omega) _⟩
end Go.Proofs.YtefdjdipbnnoaaaGreatDoor
