/-
  cncref17.item: the item of the words of a line. Any words.
-/
import Derived.Test.YtefdjdipbnnoaaaGreatDoorItemP17
import Derived.Test.YtefdjdipbnnoaaaGreatDoorRead17
import Derived.Test.YtefdjdipbnnoaaaGreatDoorRFld17
import Derived.Test.YtefdjdipbnnoaaaGreatDoorCheck17
namespace Go.Proofs.YtefdjdipbnnoaaaGreatDoor
open Go Go.RowKit
set_option linter.unusedVariables false
set_option linter.unusedSimpArgs false

/-- Words in memory. -/
def WordsAt (W : World) (a : Option Addr) (ls : List (List UInt8)) : Prop := ∀ k x, ls[k]? = some x → ∃ b, a = some ⟨b, 0, none⟩ ∧ b < W.heap.size ∧ W.cell? ⟨b, k, none⟩ = some (.string (mkB x))
theorem WordsAt.below {W W' : World} {a : Option Addr} {ls : List (List UInt8)} (h : WordsAt W a ls) (hb : Below W.heap.size W W') : WordsAt W' a ls := fun k x hk => by
  obtain ⟨b, e, hl, hc⟩ := h k x hk
  exact ⟨b, e, by have := hb.size; omega, (hb.cell (p := ⟨b, k, none⟩) hl).trans hc⟩
theorem words_cell {W : World} {base : Nat} {v : Value} {ls : List (List UInt8)} (h : W.ownsRow base 9 1 v ls.length (wordsC ls)) : ∃ a c, v = .slice a ls.length c ∧ WordsAt W a ls := by
  rcases h.2 with ⟨rfl, e⟩ | ⟨g, cap, cur, rfl, hb, _⟩
  · refine ⟨none, 0, by rw [e], fun k x hk => ?_⟩
    have := (List.getElem?_eq_some_iff.1 hk).1
    omega
  · refine ⟨_, _, rfl, fun k x hk => ⟨g, rfl, (h.lt g rfl).2, ?_⟩⟩
    have hlt := (List.getElem?_eq_some_iff.1 hk).1
    rw [h.cellAt k (by omega)]
    unfold wordsC
    rw [List.getElem?_map, hk]
    rfl
/-- What stands in the world while the words are read. -/
structure RL (w : World) (i : It) (W : World) : Prop where
  res : ItAt W w.heap.size zeroI
  it : ItAt W (w.heap.size + 1) i
  bel : Below w.heap.size w W
section
variable {w W W' : World} {i y : It}
theorem RL.below (h : RL w i W) (b : Below W.heap.size W W') : RL w i W' := ⟨h.res.below b, h.it.below b, h.bel.trans (b.mono h.bel.size)⟩
theorem RL.sets (h : RL w i W) (k : Nat) (u : Value) (hy : ItAt (W.setCell ⟨w.heap.size + 1, k, none⟩ u) (w.heap.size + 1) y) : RL w y (W.setCell ⟨w.heap.size + 1, k, none⟩ u) :=
  ⟨h.res.far (by show w.heap.size ≠ w.heap.size + 1; omega) u, hy, h.bel.setCell (by show w.heap.size ≤ w.heap.size + 1; omega) u⟩
theorem RL.far (h : RL w i W) {A : Nat} (hA : w.heap.size + 2 < A) (k : Nat) (u : Value) : RL w i (W.setCell ⟨A, k, none⟩ u) :=
  ⟨h.res.far (by show w.heap.size ≠ A; omega) u, h.it.far (by show w.heap.size + 1 ≠ A; omega) u, h.bel.setCell (by show w.heap.size ≤ A; omega) u⟩
theorem RL.upd (h : RL w i W) {x : List Int} {k : Int} (h1 : numsI i = x) (h2 : i.kind = k) : ∃ y, numsI y = x ∧ y.kind = k ∧ RL w y W := ⟨i, h1, h2, h⟩
end
/-- The numbers so far are those of the words so far. -/
def NSoFar (ns : List Int) (ws : List (List UInt8)) (k : Nat) : Prop := ∀ j x, j < k → ns[j]? = some x → ws[j]? = some (Lib.itoa x)
theorem NSoFar.next {ns : List Int} {ws : List (List UInt8)} {k : Nat} {z : Int} (h : NSoFar ns ws k) (hw : ws[k]? = some (Lib.itoa z)) : NSoFar (ns.set k z) ws (k + 1) := by
  intro j x hj hx
  by_cases e : j = k
  · subst e
    rw [List.getElem?_set_self'] at hx
    cases hn : ns[j]? with
    | none => rw [hn] at hx; simp at hx
    | some u => rw [hn] at hx; simp at hx; subst hx; exact hw
  · rw [List.getElem?_set_ne (Ne.symm e)] at hx
    exact h j x (by omega) hx
theorem NSoFar.all {ns : List Int} {ws : List (List UInt8)} (h : NSoFar ns ws 21) (hn : ns.length = 21) (hl : ws.length = 21) : ns.map Lib.itoa = ws := by
  apply List.ext_getElem?
  intro j
  rw [List.getElem?_map]
  by_cases hj : j < 21
  · have : j < ns.length := by omega
    rw [List.getElem?_eq_getElem this, h j _ hj (List.getElem?_eq_getElem this)]
    rfl
  · rw [List.getElem?_eq_none (by omega), List.getElem?_eq_none (by omega)]
    rfl
def arrN (ns : List Int) : Array Value := (ns.map fun n => Value.int .i64 n).toArray
theorem arrN_set (ns : List Int) (k : Nat) (z : Int) : (arrN ns).setIfInBounds k (.int .i64 z) = arrN (ns.set k z) := by
  unfold arrN
  rw [List.setIfInBounds_toArray, List.map_set]
theorem arrN_at {ns : List Int} {k : Nat} (h : k < ns.length) : (arrN ns)[k]? = some (.int .i64 ns[k]) := by
  unfold arrN
  simp [h]
theorem list21 (ns : List Int) (h : ns.length = 21) : ∃ a0 a1 a2 a3 a4 a5 a6 a7 a8 a9 a10 a11 a12 a13 a14 a15 a16 a17 a18 a19 a20, ns = [a0, a1, a2, a3, a4, a5, a6, a7, a8, a9, a10, a11, a12, a13, a14, a15, a16, a17, a18, a19, a20] := by
  match ns, h with
  | [a0, a1, a2, a3, a4, a5, a6, a7, a8, a9, a10, a11, a12, a13, a14, a15, a16, a17, a18, a19, a20], _ => exact ⟨a0, a1, a2, a3, a4, a5, a6, a7, a8, a9, a10, a11, a12, a13, a14, a15, a16, a17, a18, a19, a20, rfl⟩
theorem in01 (n : Int) : inK n 0 1 = is01 n := by
  unfold inK is01
  by_cases h0 : n = 0
  · subst h0; rfl
  · by_cases h1 : n = 1
    · subst h1; rfl
    · rw [beq_eq_false_iff_ne.2 h0, beq_eq_false_iff_ne.2 h1]
      simp
      omega
attribute [local go_sem] itA_0 itA_1 itA_2 itA_3 itA_4 itA_5 itA_6 itA_7 itA_8 itA_9 itA_10 itA_11 itA_12 itA_13 itA_14 itA_15 itA_16 itA_17 itA_18 itA_19 itA_20 itA_21
set_option maxRecDepth 100000 in
set_option maxHeartbeats 8000000 in
theorem ritem_any (l : List UInt8) (a : Option Addr) (c : Nat) (ls : List (List UInt8)) (w : World) (hls : splitL 32 l = ls) (hl : l.length ≤ 1000000) (hW : WordsAt w a ls) : Calls Tryz.prog 41 #[.slice a ls.length c] w (LinePost l w) := by
  obtain ⟨W1, hW1⟩ : ∃ W, (w.alloc (.cells (itA zeroI) 25)).alloc (.cells (itA zeroI) 25) = W := ⟨_, rfl⟩
  have hsz1 : W1.heap.size = w.heap.size + 2 := by rw [← hW1]; simp
  have B1 : Below w.heap.size w W1 := by rw [← hW1]; exact ((Below.refl _ _).alloc (Nat.le_refl _) _).alloc (by simp) _
  have R1 : ItAt W1 w.heap.size zeroI := by rw [← hW1]; exact (ItAt.new w zeroI).alloc _
  have I1 : ItAt W1 (w.heap.size + 1) zeroI := by rw [← hW1]; exact blk_new1 w _ _ _
  have HS := Lib.hid (⟨R1, I1, B1⟩ : RL w (kI 0) W1)
  obtain ⟨w0, ws, rfl⟩ : ∃ a b, ls = a :: b := by
    cases h : ls with
    | nil => rw [h] at hls; exact absurd hls (splitL_ne _ _)
    | cons a b => exact ⟨a, b, rfl⟩
  obtain ⟨b0, rfl, hb0, hc0⟩ := hW 0 w0 rfl
  have hjn := join_split hls
  have hlen : ∀ x ∈ ws, x.length ≤ 1000000 := fun x hx => by
    have h1 := congrArg List.length hjn
    rw [List.length_append] at h1
    obtain ⟨p, q, rfl⟩ := List.append_of_mem hx
    unfold joinW at h1
    rw [List.flatMap_append, List.flatMap_cons, List.length_append, List.length_append, List.length_cons] at h1
    omega
  have HWL := Lib.hid hlen
  have HSP := Lib.hid hls
  have HW := Lib.hid hW
  obtain ⟨N, hN⟩ : ∃ N, (w0 :: ws).length = N := ⟨_, rfl⟩
  have HN := Lib.hid hN
  have hN1 : 1 ≤ N := by rw [← hN]; simp
  rw [hN]
  clear hls hjn hlen hN R1 I1 B1 hW
  by_cases hN22 : N = 22
  rotate_left
  · have n0 : ((N : Int) != 22) = true := bne_iff_ne.2 (by omega)
    have R := Lib.hid (item_short (l := l) (by rw [HSP.out, HN.out]; exact hN22))
    clear hN22
    go_enter Tryz.func41, Tryz.ntmps41
    go_upto_region 3 with ((with_reducible refine go_allocI ?_))
    try rw [hW1]
    clear hW1
    go_wp2_with (first
      | ((with_reducible refine go_loadI (.tmp 4) (w.heap.size + 1) (kI 0) (by with_unfolding_all rfl) HS.out.it ?_))
      | ((with_reducible refine go_storeI (.tmp 2) (.tmp 14) w.heap.size (kI 0) zeroI (by with_unfolding_all rfl) (by with_unfolding_all rfl) HS.out.res ?_)))
    refine bodyPost_ret (results_ct rfl rfl (show Blk _ w.heap.size 25 (itA (kI 0)) from ItAt.row HS.out.res (kI 0)) Tryz.underlying25 rfl (by kernel_rfl)) rfl ?_
    exact LinePost.bad (kI 0) R.out (below_row HS.out.bel (Nat.le_refl _) _) rfl
  subst hN22
  have HWN := Lib.hid (show ws.length = 21 by have := HN.out; simpa using this)
  have i0 : (0 : Int) < 22 := by decide
  go_enter Tryz.func41, Tryz.ntmps41
  go_upto_region 4 with ((with_reducible refine go_allocI ?_))
  try rw [hW1]
  have KN := Lib.hid (names_any W1)
  go_wp2_with fail
  refine KN.out.mono ?_
  rintro e w3 ⟨rfl, hnm, b3⟩
  have HS3 := Lib.hid (HS.out.below b3)
  rw [hsz1] at hnm ⊢
  have HNM := Lib.hid hnm
  clear hW1 hsz1 HS KN b3 hnm
  go_wp2_with fail
  go_loopw [6] (fun s6 wr => ∃ k : Nat, 1 ≤ k ∧ k ≤ 15 ∧ s6 = .int .i64 k ∧ RL w (kI (kindN (k - 1) w0)) wr ∧ Blk wr (w.heap.size + 2) 9 namesC) (fun s6 _ => 15 - (intOf s6).toNat)
  case atStart => exact ⟨1, by omega, by omega, rfl, HS3.out, HNM.out⟩
  case round =>
    obtain ⟨k, hk1, hk15, rfl, hS, hnm⟩ := hrel
    have HS := Lib.hid hS
    have HNM := Lib.hid hnm
    clear hS hnm HS3
    by_cases hk : k < 15
    · have e1 : decide ((k : Int) < 15) = true := decide_eq_true (by omega)
      have e1' : decide (k < 15) = true := decide_eq_true hk
      have j0 : (0 : Int) ≤ (k : Int) := by omega
      have j1 : (k : Int) < 15 := by omega
      have hst := kindN_step hk1 w0
      go_upto_region 8 with fail
      let S : World → Prop := fun W => RL w (kI (kindN (k - 1) w0)) W ∧ Blk W (w.heap.size + 2) 9 namesC
      have hs : S wr.drew := ⟨HS.out.below (Below.refl _ _).drew, HNM.out.drew⟩
      have inst : Nonempty (At S) := ⟨⟨_, hs⟩⟩
      have C1 : ∀ p : At S, p.w.cell? ⟨w.heap.size + 2, k, none⟩ = some (.string (mkB (kname k))) := fun p => p.ok.2.cell' k (namesC_at k hk)
      have C2 : ∀ p : At S, p.w.cell? ⟨b0, 0, none⟩ = some (.string (mkB w0)) := fun p => (p.ok.1.bel.cell (p := ⟨b0, 0, none⟩) hb0).trans hc0
      have HF : Hid (∀ p : At S, RL w (kI (kindN (k - 1) w0)) p.w ∧ Blk p.w (w.heap.size + 2) 9 namesC) := Lib.hid (fun p => p.ok)
      clear_value S
      refine wp_region_at S (by kernel_rfl) (by kernel_rfl) hs ?_
      repeat (go_big_quiet_step (fail))
      refine wpQuiet_nil ?_
      rintro _ ⟨p, rfl⟩
      obtain ⟨hS2, hN2⟩ := HF.out p
      generalize p.w = W2 at hS2 hN2 ⊢
      have HS2 := Lib.hid hS2
      have HN2 := Lib.hid hN2
      clear HF inst hs C1 C2 HS p hS2 hN2 HNM
      obtain ⟨eb, heb⟩ : ∃ b, ((mkB (kname k)).toList == (mkB w0).toList) = b := ⟨_, rfl⟩
      rw [heb]
      cases eb
      · have hq : ¬ w0 = kname k := fun e => by rw [str_eq _ _ e.symm] at heb; cases heb
        rw [if_neg hq] at hst
        have HST := Lib.hid hst
        clear hq hst heb
        go_wp2_with fail
        go_roundw
        case rel => exact ⟨k + 1, by omega, by omega, by go_num, by rw [show k + 1 - 1 = k by omega, HST.out]; exact HS2.out, HN2.out⟩
        case measure => simp [intOf]; omega
      · have hq : w0 = kname k := Classical.byContradiction fun e => by rw [str_ne _ _ (fun e2 => e e2.symm)] at heb; cases heb
        rw [if_pos hq] at hst
        have HS3 := HS2.out.sets (y := kI (kindN k w0)) 0 (.int .i64 (k : Int)) (by rw [hst]; exact HS2.out.it.s0 k)
        have HS3 := Lib.hid HS3
        have HN3 := Lib.hid (HN2.out.far (by show w.heap.size + 2 ≠ w.heap.size + 1; omega) (p := ⟨w.heap.size + 1, 0, none⟩) (.int .i64 (k : Int)))
        have f0 := HS2.out.it.frozen 0
        have c0 := HS2.out.it.c0
        clear hq hst heb
        go_wp2_with fail
        go_roundw
        case rel => exact ⟨k + 1, by omega, by omega, by go_num, HS3.out, HN3.out⟩
        case measure => simp [intOf]; omega
    · obtain rfl : k = 15 := by omega
      rw [show ((15 : Nat) : Int) = 15 from rfl]
      have e1 : decide ((15 : Int) < 15) = false := rfl
      obtain ⟨K, hK⟩ : ∃ K, kindF w0 = K := ⟨_, rfl⟩
      have HK0 := Lib.hid hK
      have hK14 : K ≤ 14 := by rw [← hK]; exact kindF_le w0
      have hS : RL w (kI K) wr := by have := HS.out; rw [← hK]; exact this
      have HS := Lib.hid hS
      have hAl : w.heap.size + 2 < wr.heap.size := HNM.out.lt
      clear hK hS hk1 hk15 hk HNM
      go_upto_region 11 with fail
      refine wp_told (fun W => RL w (kI K) W ∧ Blk W wr.heap.size 112 (arrN (List.replicate 21 0))) ⟨HS.out.below ((Below.refl _ _).alloc (Nat.le_refl _) _), Blk.new _ _ _⟩ ?_
      rintro W4 ⟨hs4, ha4⟩
      obtain ⟨A, hAe⟩ : ∃ A, wr.heap.size = A := ⟨_, rfl⟩
      rw [hAe] at ha4 hAl ⊢
      have HS4 := Lib.hid hs4
      have HA4 := Lib.hid ha4
      clear hAe hs4 ha4 HS
      go_wp2_with fail
      go_loopw [8] (fun s8 wr => ∃ (k : Nat) (ns : List Int), k ≤ 21 ∧ s8 = .int .i64 k ∧ ns.length = 21 ∧ NSoFar ns ws k ∧ RL w (kI K) wr ∧ Blk wr A 112 (arrN ns)) (fun s8 _ => 21 - (intOf s8).toNat)
      case atStart => exact ⟨0, List.replicate 21 0, by omega, rfl, rfl, fun j x h => by omega, HS4.out, HA4.out⟩
      case round =>
        obtain ⟨k, ns, hk21, rfl, hns, hsf, hS, hA⟩ := hrel
        have HS := Lib.hid hS
        have HA := Lib.hid hA
        have HSF := Lib.hid hsf
        have HNS := Lib.hid hns
        clear hS hA hsf HS4 HA4
        by_cases hk : k < 21
        · have e1 : decide ((k : Int) < 21) = true := decide_eq_true (by omega)
          have e1' : decide (k < 21) = true := decide_eq_true hk
          have j0 : (0 : Int) ≤ (k : Int) := by omega
          have j1 : (k : Int) < 21 := by omega
          have j2 : (0 : Int) ≤ (k : Int) + 1 := by omega
          have j3 : (k : Int) + 1 < 22 := by omega
          obtain ⟨x, hx⟩ : ∃ x, ws[k]? = some x := ⟨ws[k]'(by rw [HWN.out]; exact hk), List.getElem?_eq_getElem _⟩
          obtain ⟨b, hbe, hb, hc⟩ := HW.out (k + 1) x (by simpa using hx)
          obtain rfl : b0 = b := by injection hbe with hbe; injection hbe
          have q0 : wr.cell? ⟨b0, k + 1, none⟩ = some (.string (mkB x)) := (HS.out.bel.cell (p := ⟨b0, k + 1, none⟩) hb).trans hc
          have hxl : x.length ≤ 1000000 := HWL.out x (List.mem_of_getElem? hx)
          have KR := read_any (mkB x) (by rw [mkB_size]; exact hxl) wr
          rw [bl_mkB] at KR
          have fz := HA.out.frozen k
          obtain ⟨zk, cz⟩ : ∃ z, wr.cell? ⟨A, k, none⟩ = some (.int .i64 z) := ⟨_, HA.out.cell' k (arrN_at (by rw [hns]; exact hk))⟩
          have HX := Lib.hid hx
          clear hx hbe hb hc hns
          cases hr : readF x with
          | none =>
            have R := Lib.hid (item_word HSP.out HX.out hr)
            rw [hr] at KR
            have KR := Lib.hid KR
            clear hr
            unfold readV at KR
            go_wp2_with fail
            refine KR.out.mono ?_
            rintro e w' ⟨rfl, rfl⟩
            go_wp2_with (first
              | ((with_reducible refine go_built 25 #[] (itA zeroI) (by with_unfolding_all kernel_rfl) ?_))
              | ((with_reducible refine go_storeI (.tmp 2) (.tmp 47) w.heap.size zeroI zeroI (by with_unfolding_all rfl) (by with_unfolding_all rfl) HS.out.res ?_)))
            refine bodyPost_ret (results_ct rfl rfl (show Blk _ w.heap.size 25 (itA zeroI) from ItAt.row HS.out.res zeroI) Tryz.underlying25 rfl (by kernel_rfl)) rfl ?_
            exact LinePost.bad zeroI R.out (below_row HS.out.bel (Nat.le_refl _) _) rfl
          | some z =>
            have HZ := Lib.hid (read_iff.1 hr).2
            rw [hr] at KR
            have KR := Lib.hid KR
            clear hr
            unfold readV at KR
            have HS5 := Lib.hid (HS.out.far (A := A) (by omega) k (.int .i64 z))
            have HA5 := HA.out.put k (.int .i64 z)
            rw [arrN_set] at HA5
            have HA5 := Lib.hid HA5
            go_wp2_with fail
            refine KR.out.mono ?_
            rintro e w' ⟨rfl, rfl⟩
            go_wp2_with fail
            go_roundw
            case rel => exact ⟨k + 1, ns.set k z, by omega, by go_num, by rw [List.length_set]; exact HNS.out, HSF.out.next (by rw [HZ.out]; exact HX.out), HS5.out, HA5.out⟩
            case measure => simp [intOf]; omega
        · obtain rfl : k = 21 := by omega
          rw [show ((21 : Nat) : Int) = 21 from rfl]
          have e1 : decide ((21 : Int) < 21) = false := rfl
          obtain ⟨a0, a1, a2, a3, a4, a5, a6, a7, a8, a9, a10, a11, a12, a13, a14, a15, a16, a17, a18, a19, a20, rfl⟩ := list21 ns HNS.out
          have HALL := Lib.hid (HSF.out.all HNS.out HWN.out)
          have hAl2 : w.heap.size + 1 < A := by omega
          have K12 := fun W => rin17_any a12 0 1 W
          have K14 := fun W => rin17_any a14 0 1 W
          have K20 := fun W => rin17_any a20 0 1 W
          rw [in01] at K12 K14 K20
          obtain ⟨f12, h12⟩ : ∃ b, is01 a12 = b := ⟨_, rfl⟩
          obtain ⟨f14, h14⟩ : ∃ b, is01 a14 = b := ⟨_, rfl⟩
          obtain ⟨f20, h20⟩ : ∃ b, is01 a20 = b := ⟨_, rfl⟩
          rw [h12] at K12
          rw [h14] at K14
          rw [h20] at K20
          have K12 := Lib.hid K12
          have K14 := Lib.hid K14
          have K20 := Lib.hid K20
          have H12 := Lib.hid h12
          have H14 := Lib.hid h14
          have H20 := Lib.hid h20
          have q12 : wr.cell? ⟨A, 12, none⟩ = some (.int .i64 a12) := Blk.cell' HA.out 12 rfl
          have q14 : wr.cell? ⟨A, 14, none⟩ = some (.int .i64 a14) := Blk.cell' HA.out 14 rfl
          have q20 : wr.cell? ⟨A, 20, none⟩ = some (.int .i64 a20) := Blk.cell' HA.out 20 rfl
          clear h12 h14 h20 HSF HNS
          cases f12
          · have R := Lib.hid (item_flag HSP.out (k := 12) (x := Lib.itoa a12) (by rw [← HALL.out]; rfl) rfl (.inl rfl) H12.out)
            go_wp2_with fail
            refine (K12.out _).mono ?_
            rintro e w' ⟨rfl, rfl⟩
            go_wp2_with (first
              | ((with_reducible refine go_built 25 #[] (itA zeroI) (by with_unfolding_all kernel_rfl) ?_))
              | ((with_reducible refine go_storeI (.tmp 2) (.tmp 67) w.heap.size zeroI zeroI (by with_unfolding_all rfl) (by with_unfolding_all rfl) HS.out.res ?_)))
            refine bodyPost_ret (results_ct rfl rfl (show Blk _ w.heap.size 25 (itA zeroI) from ItAt.row HS.out.res zeroI) Tryz.underlying25 rfl (by kernel_rfl)) rfl ?_
            exact LinePost.bad zeroI R.out (below_row HS.out.bel (Nat.le_refl _) _) rfl
          go_wp2_with fail
          refine (K12.out _).mono ?_
          rintro e w' ⟨rfl, rfl⟩
          cases f14
          · have R := Lib.hid (item_flag HSP.out (k := 14) (x := Lib.itoa a14) (by rw [← HALL.out]; rfl) rfl (.inr (.inl rfl)) H14.out)
            go_wp2_with fail
            refine (K14.out _).mono ?_
            rintro e w' ⟨rfl, rfl⟩
            go_wp2_with (first
              | ((with_reducible refine go_built 25 #[] (itA zeroI) (by with_unfolding_all kernel_rfl) ?_))
              | ((with_reducible refine go_storeI (.tmp 2) (.tmp 67) w.heap.size zeroI zeroI (by with_unfolding_all rfl) (by with_unfolding_all rfl) HS.out.res ?_)))
            refine bodyPost_ret (results_ct rfl rfl (show Blk _ w.heap.size 25 (itA zeroI) from ItAt.row HS.out.res zeroI) Tryz.underlying25 rfl (by kernel_rfl)) rfl ?_
            exact LinePost.bad zeroI R.out (below_row HS.out.bel (Nat.le_refl _) _) rfl
          go_wp2_with fail
          refine (K14.out _).mono ?_
          rintro e w' ⟨rfl, rfl⟩
          cases f20
          · have R := Lib.hid (item_flag HSP.out (k := 20) (x := Lib.itoa a20) (by rw [← HALL.out]; rfl) rfl (.inr (.inr rfl)) H20.out)
            go_wp2_with fail
            refine (K20.out _).mono ?_
            rintro e w' ⟨rfl, rfl⟩
            go_wp2_with (first
              | ((with_reducible refine go_built 25 #[] (itA zeroI) (by with_unfolding_all kernel_rfl) ?_))
              | ((with_reducible refine go_storeI (.tmp 2) (.tmp 67) w.heap.size zeroI zeroI (by with_unfolding_all rfl) (by with_unfolding_all rfl) HS.out.res ?_)))
            refine bodyPost_ret (results_ct rfl rfl (show Blk _ w.heap.size 25 (itA zeroI) from ItAt.row HS.out.res zeroI) Tryz.underlying25 rfl (by kernel_rfl)) rfl ?_
            exact LinePost.bad zeroI R.out (below_row HS.out.bel (Nat.le_refl _) _) rfl
          go_wp2_with fail
          refine (K20.out _).mono ?_
          rintro e w' ⟨rfl, rfl⟩
          clear K12 K14 K20 q12 q14 q20
          go_upto_region 20 with fail
          have f1 := HS.out.it.frozen 1
          have c1 := HS.out.it.c1
          have f2 := HS.out.it.frozen 2
          have c2 := HS.out.it.c2
          have f3 := HS.out.it.frozen 3
          have c3 := HS.out.it.c3
          have f4 := HS.out.it.frozen 4
          have c4 := HS.out.it.c4
          have f5 := HS.out.it.frozen 5
          have c5 := HS.out.it.c5
          have f6 := HS.out.it.frozen 6
          have c6 := HS.out.it.c6
          have f7 := HS.out.it.frozen 7
          have c7 := HS.out.it.c7
          have hS0 := Blk.drew HA.out
          refine region_L (fun W => Blk W A 112 (arrN [a0, a1, a2, a3, a4, a5, a6, a7, a8, a9, a10, a11, a12, a13, a14, a15, a16, a17, a18, a19, a20])) [] (by kernel_rfl) ?_
          refine take_P 0 (v := .pointer (some ⟨A, 0, none⟩)) rfl (by kernel_rfl) (by kernel_rfl) (by kernel_rfl) (fun _ _ _ h => h) rfl (fun W' => by go_simp) ?_
          refine take_L 1 (v := .int .i64 a0) rfl (by kernel_rfl) (by kernel_rfl) (by kernel_rfl) (by kernel_rfl) (fun _ _ _ h => h) rfl (fun W' hW' => by have q : W'.cell? ⟨A, 0, none⟩ = some (.int .i64 a0) := Blk.cell' hW' 0 rfl; go_simp) hS0 ?_
          refine take_P 2 (v := .pointer (some ⟨A, 1, none⟩)) rfl (by kernel_rfl) (by kernel_rfl) (by kernel_rfl) (fun _ _ _ h => h) rfl (fun W' => by go_simp) ?_
          refine take_L 3 (v := .int .i64 a1) rfl (by kernel_rfl) (by kernel_rfl) (by kernel_rfl) (by kernel_rfl) (fun _ _ _ h => h) rfl (fun W' hW' => by have q : W'.cell? ⟨A, 1, none⟩ = some (.int .i64 a1) := Blk.cell' hW' 1 rfl; go_simp) hS0 ?_
          refine take_P 4 (v := .pointer (some ⟨A, 2, none⟩)) rfl (by kernel_rfl) (by kernel_rfl) (by kernel_rfl) (fun _ _ _ h => h) rfl (fun W' => by go_simp) ?_
          refine take_L 5 (v := .int .i64 a2) rfl (by kernel_rfl) (by kernel_rfl) (by kernel_rfl) (by kernel_rfl) (fun _ _ _ h => h) rfl (fun W' hW' => by have q : W'.cell? ⟨A, 2, none⟩ = some (.int .i64 a2) := Blk.cell' hW' 2 rfl; go_simp) hS0 ?_
          refine take_P 6 (v := .pointer (some ⟨A, 3, none⟩)) rfl (by kernel_rfl) (by kernel_rfl) (by kernel_rfl) (fun _ _ _ h => h) rfl (fun W' => by go_simp) ?_
          refine take_L 7 (v := .int .i64 a3) rfl (by kernel_rfl) (by kernel_rfl) (by kernel_rfl) (by kernel_rfl) (fun _ _ _ h => h) rfl (fun W' hW' => by have q : W'.cell? ⟨A, 3, none⟩ = some (.int .i64 a3) := Blk.cell' hW' 3 rfl; go_simp) hS0 ?_
          refine take_P 8 (v := .agg #[.int .i64 a1, .int .i64 a2, .int .i64 a3]) rfl (by kernel_rfl) (by kernel_rfl) (by kernel_rfl) (fun _ _ _ h => h) rfl (fun W' => by go_simp) ?_
          refine take_P 9 (v := .pointer (some ⟨A, 4, none⟩)) rfl (by kernel_rfl) (by kernel_rfl) (by kernel_rfl) (fun _ _ _ h => h) rfl (fun W' => by go_simp) ?_
          refine take_L 10 (v := .int .i64 a4) rfl (by kernel_rfl) (by kernel_rfl) (by kernel_rfl) (by kernel_rfl) (fun _ _ _ h => h) rfl (fun W' hW' => by have q : W'.cell? ⟨A, 4, none⟩ = some (.int .i64 a4) := Blk.cell' hW' 4 rfl; go_simp) hS0 ?_
          refine take_P 11 (v := .pointer (some ⟨A, 5, none⟩)) rfl (by kernel_rfl) (by kernel_rfl) (by kernel_rfl) (fun _ _ _ h => h) rfl (fun W' => by go_simp) ?_
          refine take_L 12 (v := .int .i64 a5) rfl (by kernel_rfl) (by kernel_rfl) (by kernel_rfl) (by kernel_rfl) (fun _ _ _ h => h) rfl (fun W' hW' => by have q : W'.cell? ⟨A, 5, none⟩ = some (.int .i64 a5) := Blk.cell' hW' 5 rfl; go_simp) hS0 ?_
          refine take_P 13 (v := .pointer (some ⟨A, 6, none⟩)) rfl (by kernel_rfl) (by kernel_rfl) (by kernel_rfl) (fun _ _ _ h => h) rfl (fun W' => by go_simp) ?_
          refine take_L 14 (v := .int .i64 a6) rfl (by kernel_rfl) (by kernel_rfl) (by kernel_rfl) (by kernel_rfl) (fun _ _ _ h => h) rfl (fun W' hW' => by have q : W'.cell? ⟨A, 6, none⟩ = some (.int .i64 a6) := Blk.cell' hW' 6 rfl; go_simp) hS0 ?_
          refine take_P 15 (v := .agg #[.int .i64 a4, .int .i64 a5, .int .i64 a6]) rfl (by kernel_rfl) (by kernel_rfl) (by kernel_rfl) (fun _ _ _ h => h) rfl (fun W' => by go_simp) ?_
          clear hS0
          refine take_P 16 (v := .pointer (some ⟨w.heap.size + 1, 1, none⟩)) rfl (by kernel_rfl) (by kernel_rfl) (by kernel_rfl) (fun _ _ _ h => h) rfl (fun W' => by go_simp) ?_
          refine one_L 17 (by kernel_rfl) rfl rfl fun K17 hK17 => ?_
          have HK17 := Lib.hid hK17
          clear hK17
          go_simp
          obtain ⟨y1, hn1, hk1, hS⟩ := (HS.out.sets 1 (.int .i64 a0) (HS.out.it.s1 (a0))).upd (x := (numsI (kI K)).set 0 (a0)) (k := It.kind (kI K)) rfl rfl
          have HS := Lib.hid hS
          have HN1 := Lib.hid (And.intro hn1 hk1)
          clear hS hn1 hk1
          have HA := Lib.hid (Blk.skip HA.out (p := ⟨w.heap.size + 1, 1, none⟩) (by show A ≠ w.heap.size + 1; omega) (.int .i64 a0))
          refine HK17.out _ _ (fun _ _ => HA.out.drew) ?_
          refine take_P 18 (v := .pointer (some ⟨w.heap.size + 1, 2, none⟩)) rfl (by kernel_rfl) (by kernel_rfl) (by kernel_rfl) (fun _ _ _ h => h) rfl (fun W' => by go_simp) ?_
          refine one_L 19 (by kernel_rfl) rfl rfl fun K19 hK19 => ?_
          have HK19 := Lib.hid hK19
          clear hK19
          go_simp
          obtain ⟨y2, hn2, hk2, hS⟩ := (HS.out.sets 2 (.int .i64 a1) (HS.out.it.s2 (a1))).upd (x := (numsI y1).set 1 (a1)) (k := It.kind y1) rfl rfl
          have HS := Lib.hid hS
          have HN2 := Lib.hid (And.intro hn2 hk2)
          clear hS hn2 hk2
          have HA := Lib.hid (Blk.skip HA.out (p := ⟨w.heap.size + 1, 2, none⟩) (by show A ≠ w.heap.size + 1; omega) (.int .i64 a1))
          obtain ⟨y3, hn3, hk3, hS⟩ := (HS.out.sets 3 (.int .i64 a2) (HS.out.it.s3 (a2))).upd (x := (numsI y2).set 2 (a2)) (k := It.kind y2) rfl rfl
          have HS := Lib.hid hS
          have HN3 := Lib.hid (And.intro hn3 hk3)
          clear hS hn3 hk3
          have HA := Lib.hid (Blk.skip HA.out (p := ⟨w.heap.size + 1, 3, none⟩) (by show A ≠ w.heap.size + 1; omega) (.int .i64 a2))
          obtain ⟨y4, hn4, hk4, hS⟩ := (HS.out.sets 4 (.int .i64 a3) (HS.out.it.s4 (a3))).upd (x := (numsI y3).set 3 (a3)) (k := It.kind y3) rfl rfl
          have HS := Lib.hid hS
          have HN4 := Lib.hid (And.intro hn4 hk4)
          clear hS hn4 hk4
          have HA := Lib.hid (Blk.skip HA.out (p := ⟨w.heap.size + 1, 4, none⟩) (by show A ≠ w.heap.size + 1; omega) (.int .i64 a3))
          refine HK19.out _ _ (fun _ _ => HA.out.drew) ?_
          refine take_P 20 (v := .pointer (some ⟨w.heap.size + 1, 5, none⟩)) rfl (by kernel_rfl) (by kernel_rfl) (by kernel_rfl) (fun _ _ _ h => h) rfl (fun W' => by go_simp) ?_
          refine one_L 21 (by kernel_rfl) rfl rfl fun K21 hK21 => ?_
          have HK21 := Lib.hid hK21
          clear hK21
          go_simp
          obtain ⟨y5, hn5, hk5, hS⟩ := (HS.out.sets 5 (.int .i64 a4) (HS.out.it.s5 (a4))).upd (x := (numsI y4).set 4 (a4)) (k := It.kind y4) rfl rfl
          have HS := Lib.hid hS
          have HN5 := Lib.hid (And.intro hn5 hk5)
          clear hS hn5 hk5
          have HA := Lib.hid (Blk.skip HA.out (p := ⟨w.heap.size + 1, 5, none⟩) (by show A ≠ w.heap.size + 1; omega) (.int .i64 a4))
          obtain ⟨y6, hn6, hk6, hS⟩ := (HS.out.sets 6 (.int .i64 a5) (HS.out.it.s6 (a5))).upd (x := (numsI y5).set 5 (a5)) (k := It.kind y5) rfl rfl
          have HS := Lib.hid hS
          have HN6 := Lib.hid (And.intro hn6 hk6)
          clear hS hn6 hk6
          have HA := Lib.hid (Blk.skip HA.out (p := ⟨w.heap.size + 1, 6, none⟩) (by show A ≠ w.heap.size + 1; omega) (.int .i64 a5))
          obtain ⟨y7, hn7, hk7, hS⟩ := (HS.out.sets 7 (.int .i64 a6) (HS.out.it.s7 (a6))).upd (x := (numsI y6).set 6 (a6)) (k := It.kind y6) rfl rfl
          have HS := Lib.hid hS
          have HN7 := Lib.hid (And.intro hn7 hk7)
          clear hS hn7 hk7
          have HA := Lib.hid (Blk.skip HA.out (p := ⟨w.heap.size + 1, 7, none⟩) (by show A ≠ w.heap.size + 1; omega) (.int .i64 a6))
          refine HK21.out _ _ (fun _ _ => HA.out.drew) ?_
          refine done_L (by kernel_rfl) ?_ _
          clear HK17 HK19 HK21
          refine on_told (fun W => RL w y7 W ∧ Blk W A 112 (arrN [a0, a1, a2, a3, a4, a5, a6, a7, a8, a9, a10, a11, a12, a13, a14, a15, a16, a17, a18, a19, a20])) ⟨HS.out.below (Below.refl _ _).drew, HA.out.drew⟩ ?_
          clear HS HA f1 c1 f2 c2 f3 c3 f4 c4 f5 c5 f6 c6 f7 c7
          rintro W20 ⟨hs20, ha20⟩
          have HS := Lib.hid hs20
          have HA := Lib.hid ha20
          clear hs20 ha20
          go_simp
          go_upto_region 21 with fail
          have f8 := HS.out.it.frozen 8
          have c8 := HS.out.it.c8
          have f9 := HS.out.it.frozen 9
          have c9 := HS.out.it.c9
          have f10 := HS.out.it.frozen 10
          have c10 := HS.out.it.c10
          have f11 := HS.out.it.frozen 11
          have c11 := HS.out.it.c11
          have f12 := HS.out.it.frozen 12
          have c12 := HS.out.it.c12
          have f13 := HS.out.it.frozen 13
          have c13 := HS.out.it.c13
          have hS0 := Blk.drew HA.out
          refine region_L (fun W => Blk W A 112 (arrN [a0, a1, a2, a3, a4, a5, a6, a7, a8, a9, a10, a11, a12, a13, a14, a15, a16, a17, a18, a19, a20])) [] (by kernel_rfl) ?_
          refine take_P 0 (v := .pointer (some ⟨A, 7, none⟩)) rfl (by kernel_rfl) (by kernel_rfl) (by kernel_rfl) (fun _ _ _ h => h) rfl (fun W' => by go_simp) ?_
          refine take_L 1 (v := .int .i64 a7) rfl (by kernel_rfl) (by kernel_rfl) (by kernel_rfl) (by kernel_rfl) (fun _ _ _ h => h) rfl (fun W' hW' => by have q : W'.cell? ⟨A, 7, none⟩ = some (.int .i64 a7) := Blk.cell' hW' 7 rfl; go_simp) hS0 ?_
          refine take_P 2 (v := .pointer (some ⟨A, 8, none⟩)) rfl (by kernel_rfl) (by kernel_rfl) (by kernel_rfl) (fun _ _ _ h => h) rfl (fun W' => by go_simp) ?_
          refine take_L 3 (v := .int .i64 a8) rfl (by kernel_rfl) (by kernel_rfl) (by kernel_rfl) (by kernel_rfl) (fun _ _ _ h => h) rfl (fun W' hW' => by have q : W'.cell? ⟨A, 8, none⟩ = some (.int .i64 a8) := Blk.cell' hW' 8 rfl; go_simp) hS0 ?_
          refine take_P 4 (v := .pointer (some ⟨A, 9, none⟩)) rfl (by kernel_rfl) (by kernel_rfl) (by kernel_rfl) (fun _ _ _ h => h) rfl (fun W' => by go_simp) ?_
          refine take_L 5 (v := .int .i64 a9) rfl (by kernel_rfl) (by kernel_rfl) (by kernel_rfl) (by kernel_rfl) (fun _ _ _ h => h) rfl (fun W' hW' => by have q : W'.cell? ⟨A, 9, none⟩ = some (.int .i64 a9) := Blk.cell' hW' 9 rfl; go_simp) hS0 ?_
          refine take_P 6 (v := .pointer (some ⟨A, 10, none⟩)) rfl (by kernel_rfl) (by kernel_rfl) (by kernel_rfl) (fun _ _ _ h => h) rfl (fun W' => by go_simp) ?_
          refine take_L 7 (v := .int .i64 a10) rfl (by kernel_rfl) (by kernel_rfl) (by kernel_rfl) (by kernel_rfl) (fun _ _ _ h => h) rfl (fun W' hW' => by have q : W'.cell? ⟨A, 10, none⟩ = some (.int .i64 a10) := Blk.cell' hW' 10 rfl; go_simp) hS0 ?_
          refine take_P 8 (v := .agg #[.int .i64 a8, .int .i64 a9, .int .i64 a10]) rfl (by kernel_rfl) (by kernel_rfl) (by kernel_rfl) (fun _ _ _ h => h) rfl (fun W' => by go_simp) ?_
          refine take_P 9 (v := .pointer (some ⟨A, 11, none⟩)) rfl (by kernel_rfl) (by kernel_rfl) (by kernel_rfl) (fun _ _ _ h => h) rfl (fun W' => by go_simp) ?_
          refine take_L 10 (v := .int .i64 a11) rfl (by kernel_rfl) (by kernel_rfl) (by kernel_rfl) (by kernel_rfl) (fun _ _ _ h => h) rfl (fun W' hW' => by have q : W'.cell? ⟨A, 11, none⟩ = some (.int .i64 a11) := Blk.cell' hW' 11 rfl; go_simp) hS0 ?_
          refine take_P 11 (v := .pointer (some ⟨A, 12, none⟩)) rfl (by kernel_rfl) (by kernel_rfl) (by kernel_rfl) (fun _ _ _ h => h) rfl (fun W' => by go_simp) ?_
          refine take_L 12 (v := .int .i64 a12) rfl (by kernel_rfl) (by kernel_rfl) (by kernel_rfl) (by kernel_rfl) (fun _ _ _ h => h) rfl (fun W' hW' => by have q : W'.cell? ⟨A, 12, none⟩ = some (.int .i64 a12) := Blk.cell' hW' 12 rfl; go_simp) hS0 ?_
          refine take_P 13 (v := .bool (a12 == 1)) rfl (by kernel_rfl) (by kernel_rfl) (by kernel_rfl) (fun _ _ _ h => h) rfl (fun W' => by go_simp) ?_
          clear hS0
          refine take_P 14 (v := .pointer (some ⟨w.heap.size + 1, 8, none⟩)) rfl (by kernel_rfl) (by kernel_rfl) (by kernel_rfl) (fun _ _ _ h => h) rfl (fun W' => by go_simp) ?_
          refine one_L 15 (by kernel_rfl) rfl rfl fun K15 hK15 => ?_
          have HK15 := Lib.hid hK15
          clear hK15
          go_simp
          obtain ⟨y8, hn8, hk8, hS⟩ := (HS.out.sets 8 (.int .i64 a7) (HS.out.it.s8 (a7))).upd (x := (numsI y7).set 7 (a7)) (k := It.kind y7) rfl rfl
          have HS := Lib.hid hS
          have HN8 := Lib.hid (And.intro hn8 hk8)
          clear hS hn8 hk8
          have HA := Lib.hid (Blk.skip HA.out (p := ⟨w.heap.size + 1, 8, none⟩) (by show A ≠ w.heap.size + 1; omega) (.int .i64 a7))
          refine HK15.out _ _ (fun _ _ => HA.out.drew) ?_
          refine take_P 16 (v := .pointer (some ⟨w.heap.size + 1, 9, none⟩)) rfl (by kernel_rfl) (by kernel_rfl) (by kernel_rfl) (fun _ _ _ h => h) rfl (fun W' => by go_simp) ?_
          refine one_L 17 (by kernel_rfl) rfl rfl fun K17 hK17 => ?_
          have HK17 := Lib.hid hK17
          clear hK17
          go_simp
          obtain ⟨y9, hn9, hk9, hS⟩ := (HS.out.sets 9 (.int .i64 a8) (HS.out.it.s9 (a8))).upd (x := (numsI y8).set 8 (a8)) (k := It.kind y8) rfl rfl
          have HS := Lib.hid hS
          have HN9 := Lib.hid (And.intro hn9 hk9)
          clear hS hn9 hk9
          have HA := Lib.hid (Blk.skip HA.out (p := ⟨w.heap.size + 1, 9, none⟩) (by show A ≠ w.heap.size + 1; omega) (.int .i64 a8))
          obtain ⟨y10, hn10, hk10, hS⟩ := (HS.out.sets 10 (.int .i64 a9) (HS.out.it.s10 (a9))).upd (x := (numsI y9).set 9 (a9)) (k := It.kind y9) rfl rfl
          have HS := Lib.hid hS
          have HN10 := Lib.hid (And.intro hn10 hk10)
          clear hS hn10 hk10
          have HA := Lib.hid (Blk.skip HA.out (p := ⟨w.heap.size + 1, 10, none⟩) (by show A ≠ w.heap.size + 1; omega) (.int .i64 a9))
          obtain ⟨y11, hn11, hk11, hS⟩ := (HS.out.sets 11 (.int .i64 a10) (HS.out.it.s11 (a10))).upd (x := (numsI y10).set 10 (a10)) (k := It.kind y10) rfl rfl
          have HS := Lib.hid hS
          have HN11 := Lib.hid (And.intro hn11 hk11)
          clear hS hn11 hk11
          have HA := Lib.hid (Blk.skip HA.out (p := ⟨w.heap.size + 1, 11, none⟩) (by show A ≠ w.heap.size + 1; omega) (.int .i64 a10))
          refine HK17.out _ _ (fun _ _ => HA.out.drew) ?_
          refine take_P 18 (v := .pointer (some ⟨w.heap.size + 1, 12, none⟩)) rfl (by kernel_rfl) (by kernel_rfl) (by kernel_rfl) (fun _ _ _ h => h) rfl (fun W' => by go_simp) ?_
          refine one_L 19 (by kernel_rfl) rfl rfl fun K19 hK19 => ?_
          have HK19 := Lib.hid hK19
          clear hK19
          go_simp
          obtain ⟨y12, hn12, hk12, hS⟩ := (HS.out.sets 12 (.int .i64 a11) (HS.out.it.s12 (a11))).upd (x := (numsI y11).set 11 (a11)) (k := It.kind y11) rfl rfl
          have HS := Lib.hid hS
          have HN12 := Lib.hid (And.intro hn12 hk12)
          clear hS hn12 hk12
          have HA := Lib.hid (Blk.skip HA.out (p := ⟨w.heap.size + 1, 12, none⟩) (by show A ≠ w.heap.size + 1; omega) (.int .i64 a11))
          refine HK19.out _ _ (fun _ _ => HA.out.drew) ?_
          refine take_P 20 (v := .pointer (some ⟨w.heap.size + 1, 13, none⟩)) rfl (by kernel_rfl) (by kernel_rfl) (by kernel_rfl) (fun _ _ _ h => h) rfl (fun W' => by go_simp) ?_
          refine one_L 21 (by kernel_rfl) rfl rfl fun K21 hK21 => ?_
          have HK21 := Lib.hid hK21
          clear hK21
          go_simp
          obtain ⟨y13, hn13, hk13, hS⟩ := (HS.out.sets 13 (.bool (a12 == 1)) (HS.out.it.s13 ((a12 == 1)))).upd (x := (numsI y12).set 12 (b2i (a12 == 1))) (k := It.kind y12) rfl rfl
          have HS := Lib.hid hS
          have HN13 := Lib.hid (And.intro hn13 hk13)
          clear hS hn13 hk13
          have HA := Lib.hid (Blk.skip HA.out (p := ⟨w.heap.size + 1, 13, none⟩) (by show A ≠ w.heap.size + 1; omega) (.bool (a12 == 1)))
          refine HK21.out _ _ (fun _ _ => HA.out.drew) ?_
          refine done_L (by kernel_rfl) ?_ _
          clear HK15 HK17 HK19 HK21
          refine on_told (fun W => RL w y13 W ∧ Blk W A 112 (arrN [a0, a1, a2, a3, a4, a5, a6, a7, a8, a9, a10, a11, a12, a13, a14, a15, a16, a17, a18, a19, a20])) ⟨HS.out.below (Below.refl _ _).drew, HA.out.drew⟩ ?_
          clear HS HA f8 c8 f9 c9 f10 c10 f11 c11 f12 c12 f13 c13
          rintro W21 ⟨hs21, ha21⟩
          have HS := Lib.hid hs21
          have HA := Lib.hid ha21
          clear hs21 ha21
          go_simp
          go_upto_region 22 with fail
          have f14 := HS.out.it.frozen 14
          have c14 := HS.out.it.c14
          have f15 := HS.out.it.frozen 15
          have c15 := HS.out.it.c15
          have f16 := HS.out.it.frozen 16
          have c16 := HS.out.it.c16
          have f17 := HS.out.it.frozen 17
          have c17 := HS.out.it.c17
          have f18 := HS.out.it.frozen 18
          have c18 := HS.out.it.c18
          have hS0 := Blk.drew HA.out
          refine region_L (fun W => Blk W A 112 (arrN [a0, a1, a2, a3, a4, a5, a6, a7, a8, a9, a10, a11, a12, a13, a14, a15, a16, a17, a18, a19, a20])) [] (by kernel_rfl) ?_
          refine take_P 0 (v := .pointer (some ⟨A, 13, none⟩)) rfl (by kernel_rfl) (by kernel_rfl) (by kernel_rfl) (fun _ _ _ h => h) rfl (fun W' => by go_simp) ?_
          refine take_L 1 (v := .int .i64 a13) rfl (by kernel_rfl) (by kernel_rfl) (by kernel_rfl) (by kernel_rfl) (fun _ _ _ h => h) rfl (fun W' hW' => by have q : W'.cell? ⟨A, 13, none⟩ = some (.int .i64 a13) := Blk.cell' hW' 13 rfl; go_simp) hS0 ?_
          refine take_P 2 (v := .pointer (some ⟨A, 14, none⟩)) rfl (by kernel_rfl) (by kernel_rfl) (by kernel_rfl) (fun _ _ _ h => h) rfl (fun W' => by go_simp) ?_
          refine take_L 3 (v := .int .i64 a14) rfl (by kernel_rfl) (by kernel_rfl) (by kernel_rfl) (by kernel_rfl) (fun _ _ _ h => h) rfl (fun W' hW' => by have q : W'.cell? ⟨A, 14, none⟩ = some (.int .i64 a14) := Blk.cell' hW' 14 rfl; go_simp) hS0 ?_
          refine take_P 4 (v := .bool (a14 == 1)) rfl (by kernel_rfl) (by kernel_rfl) (by kernel_rfl) (fun _ _ _ h => h) rfl (fun W' => by go_simp) ?_
          refine take_P 5 (v := .pointer (some ⟨A, 15, none⟩)) rfl (by kernel_rfl) (by kernel_rfl) (by kernel_rfl) (fun _ _ _ h => h) rfl (fun W' => by go_simp) ?_
          refine take_L 6 (v := .int .i64 a15) rfl (by kernel_rfl) (by kernel_rfl) (by kernel_rfl) (by kernel_rfl) (fun _ _ _ h => h) rfl (fun W' hW' => by have q : W'.cell? ⟨A, 15, none⟩ = some (.int .i64 a15) := Blk.cell' hW' 15 rfl; go_simp) hS0 ?_
          refine take_P 7 (v := .pointer (some ⟨A, 16, none⟩)) rfl (by kernel_rfl) (by kernel_rfl) (by kernel_rfl) (fun _ _ _ h => h) rfl (fun W' => by go_simp) ?_
          refine take_L 8 (v := .int .i64 a16) rfl (by kernel_rfl) (by kernel_rfl) (by kernel_rfl) (by kernel_rfl) (fun _ _ _ h => h) rfl (fun W' hW' => by have q : W'.cell? ⟨A, 16, none⟩ = some (.int .i64 a16) := Blk.cell' hW' 16 rfl; go_simp) hS0 ?_
          refine take_P 9 (v := .pointer (some ⟨A, 17, none⟩)) rfl (by kernel_rfl) (by kernel_rfl) (by kernel_rfl) (fun _ _ _ h => h) rfl (fun W' => by go_simp) ?_
          refine take_L 10 (v := .int .i64 a17) rfl (by kernel_rfl) (by kernel_rfl) (by kernel_rfl) (by kernel_rfl) (fun _ _ _ h => h) rfl (fun W' hW' => by have q : W'.cell? ⟨A, 17, none⟩ = some (.int .i64 a17) := Blk.cell' hW' 17 rfl; go_simp) hS0 ?_
          clear hS0
          refine take_P 11 (v := .pointer (some ⟨w.heap.size + 1, 14, none⟩)) rfl (by kernel_rfl) (by kernel_rfl) (by kernel_rfl) (fun _ _ _ h => h) rfl (fun W' => by go_simp) ?_
          refine one_L 12 (by kernel_rfl) rfl rfl fun K12 hK12 => ?_
          have HK12 := Lib.hid hK12
          clear hK12
          go_simp
          obtain ⟨y14, hn14, hk14, hS⟩ := (HS.out.sets 14 (.int .i64 a13) (HS.out.it.s14 (a13))).upd (x := (numsI y13).set 13 (a13)) (k := It.kind y13) rfl rfl
          have HS := Lib.hid hS
          have HN14 := Lib.hid (And.intro hn14 hk14)
          clear hS hn14 hk14
          have HA := Lib.hid (Blk.skip HA.out (p := ⟨w.heap.size + 1, 14, none⟩) (by show A ≠ w.heap.size + 1; omega) (.int .i64 a13))
          refine HK12.out _ _ (fun _ _ => HA.out.drew) ?_
          refine take_P 13 (v := .pointer (some ⟨w.heap.size + 1, 15, none⟩)) rfl (by kernel_rfl) (by kernel_rfl) (by kernel_rfl) (fun _ _ _ h => h) rfl (fun W' => by go_simp) ?_
          refine one_L 14 (by kernel_rfl) rfl rfl fun K14 hK14 => ?_
          have HK14 := Lib.hid hK14
          clear hK14
          go_simp
          obtain ⟨y15, hn15, hk15, hS⟩ := (HS.out.sets 15 (.bool (a14 == 1)) (HS.out.it.s15 ((a14 == 1)))).upd (x := (numsI y14).set 14 (b2i (a14 == 1))) (k := It.kind y14) rfl rfl
          have HS := Lib.hid hS
          have HN15 := Lib.hid (And.intro hn15 hk15)
          clear hS hn15 hk15
          have HA := Lib.hid (Blk.skip HA.out (p := ⟨w.heap.size + 1, 15, none⟩) (by show A ≠ w.heap.size + 1; omega) (.bool (a14 == 1)))
          refine HK14.out _ _ (fun _ _ => HA.out.drew) ?_
          refine take_P 15 (v := .pointer (some ⟨w.heap.size + 1, 16, none⟩)) rfl (by kernel_rfl) (by kernel_rfl) (by kernel_rfl) (fun _ _ _ h => h) rfl (fun W' => by go_simp) ?_
          refine one_L 16 (by kernel_rfl) rfl rfl fun K16 hK16 => ?_
          have HK16 := Lib.hid hK16
          clear hK16
          go_simp
          obtain ⟨y16, hn16, hk16, hS⟩ := (HS.out.sets 16 (.int .i64 a15) (HS.out.it.s16 (a15))).upd (x := (numsI y15).set 15 (a15)) (k := It.kind y15) rfl rfl
          have HS := Lib.hid hS
          have HN16 := Lib.hid (And.intro hn16 hk16)
          clear hS hn16 hk16
          have HA := Lib.hid (Blk.skip HA.out (p := ⟨w.heap.size + 1, 16, none⟩) (by show A ≠ w.heap.size + 1; omega) (.int .i64 a15))
          refine HK16.out _ _ (fun _ _ => HA.out.drew) ?_
          refine take_P 17 (v := .pointer (some ⟨w.heap.size + 1, 17, none⟩)) rfl (by kernel_rfl) (by kernel_rfl) (by kernel_rfl) (fun _ _ _ h => h) rfl (fun W' => by go_simp) ?_
          refine one_L 18 (by kernel_rfl) rfl rfl fun K18 hK18 => ?_
          have HK18 := Lib.hid hK18
          clear hK18
          go_simp
          obtain ⟨y17, hn17, hk17, hS⟩ := (HS.out.sets 17 (.int .i64 a16) (HS.out.it.s17 (a16))).upd (x := (numsI y16).set 16 (a16)) (k := It.kind y16) rfl rfl
          have HS := Lib.hid hS
          have HN17 := Lib.hid (And.intro hn17 hk17)
          clear hS hn17 hk17
          have HA := Lib.hid (Blk.skip HA.out (p := ⟨w.heap.size + 1, 17, none⟩) (by show A ≠ w.heap.size + 1; omega) (.int .i64 a16))
          refine HK18.out _ _ (fun _ _ => HA.out.drew) ?_
          refine take_P 19 (v := .pointer (some ⟨w.heap.size + 1, 18, none⟩)) rfl (by kernel_rfl) (by kernel_rfl) (by kernel_rfl) (fun _ _ _ h => h) rfl (fun W' => by go_simp) ?_
          refine one_L 20 (by kernel_rfl) rfl rfl fun K20 hK20 => ?_
          have HK20 := Lib.hid hK20
          clear hK20
          go_simp
          obtain ⟨y18, hn18, hk18, hS⟩ := (HS.out.sets 18 (.int .i64 a17) (HS.out.it.s18 (a17))).upd (x := (numsI y17).set 17 (a17)) (k := It.kind y17) rfl rfl
          have HS := Lib.hid hS
          have HN18 := Lib.hid (And.intro hn18 hk18)
          clear hS hn18 hk18
          have HA := Lib.hid (Blk.skip HA.out (p := ⟨w.heap.size + 1, 18, none⟩) (by show A ≠ w.heap.size + 1; omega) (.int .i64 a17))
          refine HK20.out _ _ (fun _ _ => HA.out.drew) ?_
          refine done_L (by kernel_rfl) ?_ _
          clear HK12 HK14 HK16 HK18 HK20
          refine on_told (fun W => RL w y18 W ∧ Blk W A 112 (arrN [a0, a1, a2, a3, a4, a5, a6, a7, a8, a9, a10, a11, a12, a13, a14, a15, a16, a17, a18, a19, a20])) ⟨HS.out.below (Below.refl _ _).drew, HA.out.drew⟩ ?_
          clear HS HA f14 c14 f15 c15 f16 c16 f17 c17 f18 c18
          rintro W22 ⟨hs22, ha22⟩
          have HS := Lib.hid hs22
          have HA := Lib.hid ha22
          clear hs22 ha22
          go_simp
          go_upto_region 23 with fail
          have f19 := HS.out.it.frozen 19
          have c19 := HS.out.it.c19
          have f20 := HS.out.it.frozen 20
          have c20 := HS.out.it.c20
          have f21 := HS.out.it.frozen 21
          have c21 := HS.out.it.c21
          have hS0 := Blk.drew HA.out
          refine region_L (fun W => Blk W A 112 (arrN [a0, a1, a2, a3, a4, a5, a6, a7, a8, a9, a10, a11, a12, a13, a14, a15, a16, a17, a18, a19, a20])) [] (by kernel_rfl) ?_
          refine take_P 0 (v := .pointer (some ⟨A, 18, none⟩)) rfl (by kernel_rfl) (by kernel_rfl) (by kernel_rfl) (fun _ _ _ h => h) rfl (fun W' => by go_simp) ?_
          refine take_L 1 (v := .int .i64 a18) rfl (by kernel_rfl) (by kernel_rfl) (by kernel_rfl) (by kernel_rfl) (fun _ _ _ h => h) rfl (fun W' hW' => by have q : W'.cell? ⟨A, 18, none⟩ = some (.int .i64 a18) := Blk.cell' hW' 18 rfl; go_simp) hS0 ?_
          refine take_P 2 (v := .pointer (some ⟨A, 19, none⟩)) rfl (by kernel_rfl) (by kernel_rfl) (by kernel_rfl) (fun _ _ _ h => h) rfl (fun W' => by go_simp) ?_
          refine take_L 3 (v := .int .i64 a19) rfl (by kernel_rfl) (by kernel_rfl) (by kernel_rfl) (by kernel_rfl) (fun _ _ _ h => h) rfl (fun W' hW' => by have q : W'.cell? ⟨A, 19, none⟩ = some (.int .i64 a19) := Blk.cell' hW' 19 rfl; go_simp) hS0 ?_
          refine take_P 4 (v := .pointer (some ⟨A, 20, none⟩)) rfl (by kernel_rfl) (by kernel_rfl) (by kernel_rfl) (fun _ _ _ h => h) rfl (fun W' => by go_simp) ?_
          refine take_L 5 (v := .int .i64 a20) rfl (by kernel_rfl) (by kernel_rfl) (by kernel_rfl) (by kernel_rfl) (fun _ _ _ h => h) rfl (fun W' hW' => by have q : W'.cell? ⟨A, 20, none⟩ = some (.int .i64 a20) := Blk.cell' hW' 20 rfl; go_simp) hS0 ?_
          refine take_P 6 (v := .bool (a20 == 1)) rfl (by kernel_rfl) (by kernel_rfl) (by kernel_rfl) (fun _ _ _ h => h) rfl (fun W' => by go_simp) ?_
          clear hS0
          refine take_P 7 (v := .pointer (some ⟨w.heap.size + 1, 19, none⟩)) rfl (by kernel_rfl) (by kernel_rfl) (by kernel_rfl) (fun _ _ _ h => h) rfl (fun W' => by go_simp) ?_
          refine one_L 8 (by kernel_rfl) rfl rfl fun K8 hK8 => ?_
          have HK8 := Lib.hid hK8
          clear hK8
          go_simp
          obtain ⟨y19, hn19, hk19, hS⟩ := (HS.out.sets 19 (.int .i64 a18) (HS.out.it.s19 (a18))).upd (x := (numsI y18).set 18 (a18)) (k := It.kind y18) rfl rfl
          have HS := Lib.hid hS
          have HN19 := Lib.hid (And.intro hn19 hk19)
          clear hS hn19 hk19
          have HA := Lib.hid (Blk.skip HA.out (p := ⟨w.heap.size + 1, 19, none⟩) (by show A ≠ w.heap.size + 1; omega) (.int .i64 a18))
          refine HK8.out _ _ (fun _ _ => HA.out.drew) ?_
          refine take_P 9 (v := .pointer (some ⟨w.heap.size + 1, 20, none⟩)) rfl (by kernel_rfl) (by kernel_rfl) (by kernel_rfl) (fun _ _ _ h => h) rfl (fun W' => by go_simp) ?_
          refine one_L 10 (by kernel_rfl) rfl rfl fun K10 hK10 => ?_
          have HK10 := Lib.hid hK10
          clear hK10
          go_simp
          obtain ⟨y20, hn20, hk20, hS⟩ := (HS.out.sets 20 (.int .i64 a19) (HS.out.it.s20 (a19))).upd (x := (numsI y19).set 19 (a19)) (k := It.kind y19) rfl rfl
          have HS := Lib.hid hS
          have HN20 := Lib.hid (And.intro hn20 hk20)
          clear hS hn20 hk20
          have HA := Lib.hid (Blk.skip HA.out (p := ⟨w.heap.size + 1, 20, none⟩) (by show A ≠ w.heap.size + 1; omega) (.int .i64 a19))
          refine HK10.out _ _ (fun _ _ => HA.out.drew) ?_
          refine take_P 11 (v := .pointer (some ⟨w.heap.size + 1, 21, none⟩)) rfl (by kernel_rfl) (by kernel_rfl) (by kernel_rfl) (fun _ _ _ h => h) rfl (fun W' => by go_simp) ?_
          refine one_L 12 (by kernel_rfl) rfl rfl fun K12 hK12 => ?_
          have HK12 := Lib.hid hK12
          clear hK12
          go_simp
          obtain ⟨y21, hn21, hk21, hS⟩ := (HS.out.sets 21 (.bool (a20 == 1)) (HS.out.it.s21 ((a20 == 1)))).upd (x := (numsI y20).set 20 (b2i (a20 == 1))) (k := It.kind y20) rfl rfl
          have HS := Lib.hid hS
          have HN21 := Lib.hid (And.intro hn21 hk21)
          clear hS hn21 hk21
          have HA := Lib.hid (Blk.skip HA.out (p := ⟨w.heap.size + 1, 21, none⟩) (by show A ≠ w.heap.size + 1; omega) (.bool (a20 == 1)))
          refine HK12.out _ _ (fun _ _ => HA.out.drew) ?_
          refine done_L (by kernel_rfl) ?_ _
          clear HK8 HK10 HK12
          refine on_told (fun W => RL w y21 W ∧ Blk W A 112 (arrN [a0, a1, a2, a3, a4, a5, a6, a7, a8, a9, a10, a11, a12, a13, a14, a15, a16, a17, a18, a19, a20])) ⟨HS.out.below (Below.refl _ _).drew, HA.out.drew⟩ ?_
          clear HS HA f19 c19 f20 c20 f21 c21
          rintro W23 ⟨hs23, ha23⟩
          have HS := Lib.hid hs23
          have HA := Lib.hid ha23
          clear hs23 ha23
          go_simp
          have hn : numsI y21 = [a0, a1, a2, a3, a4, a5, a6, a7, a8, a9, a10, a11, a12, a13, a14, a15, a16, a17, a18, a19, a20] := by
            rw [HN21.out.1, HN20.out.1, HN19.out.1, HN18.out.1, HN17.out.1, HN16.out.1, HN15.out.1, HN14.out.1, HN13.out.1, HN12.out.1, HN11.out.1, HN10.out.1, HN9.out.1, HN8.out.1, HN7.out.1, HN6.out.1, HN5.out.1, HN4.out.1, HN3.out.1, HN2.out.1, HN1.out.1]
            show [a0, a1, a2, a3, a4, a5, a6, a7, a8, a9, a10, a11, b2i (a12 == 1), a13, b2i (a14 == 1), a15, a16, a17, a18, a19, b2i (a20 == 1)] = _
            rw [is01_b2i H12.out, is01_b2i H14.out, is01_b2i H20.out]
          have hk : y21.kind = (K : Int) := by rw [HN21.out.2, HN20.out.2, HN19.out.2, HN18.out.2, HN17.out.2, HN16.out.2, HN15.out.2, HN14.out.2, HN13.out.2, HN12.out.2, HN11.out.2, HN10.out.2, HN9.out.2, HN8.out.2, HN7.out.2, HN6.out.2, HN5.out.2, HN4.out.2, HN3.out.2, HN2.out.2, HN1.out.2]; rfl
          have hsaid : itemF l = if validI y21 = true then some y21 else none := by
            by_cases hK0 : K = 0
            · rw [item_kind HSP.out (HK0.out.trans hK0), if_neg]
              intro hv
              have := validI_kind hv
              omega
            · refine item_said (by omega) (body_of HSP.out ?_ (by rw [hn]; exact HALL.out))
              rw [hk, Int.toNat_natCast, ← HK0.out]
              exact kindF_name (by rw [HK0.out]; exact hK0)
          clear hn hk HN1 HN2 HN3 HN4 HN5 HN6 HN7 HN8 HN9 HN10 HN11 HN12 HN13 HN14 HN15 HN16 HN17 HN18 HN19 HN20 HN21
          obtain ⟨vl, hvl⟩ : ∃ b, validI y21 = b := ⟨_, rfl⟩
          rw [hvl] at hsaid
          have R := Lib.hid hsaid
          have KV := fun W => rvalid_v y21 W
          rw [hvl] at KV
          have KV := Lib.hid KV
          clear hvl hsaid HA
          go_upto_region 24 with fail
          have HS9 := Lib.hid (HS.out.below (Below.refl _ _).drew)
          have hS0 := HS9.out.it
          refine region_L (fun W => ItAt W (w.heap.size + 1) y21) [] (by kernel_rfl) ?_
          refine take_L 0 (v := .agg (itA y21)) rfl (by kernel_rfl) (by kernel_rfl) (by kernel_rfl) (by kernel_rfl) (fun _ _ _ h => h) rfl (fun W' hW' => by exact exec_item (.tmp 4) (w.heap.size + 1) y21 rfl rfl hW') hS0 ?_
          refine take_L 1 (v := .agg (itA y21)) rfl (by kernel_rfl) (by kernel_rfl) (by kernel_rfl) (by kernel_rfl) (fun _ _ _ h => h) rfl (fun W' hW' => by exact exec_item (.tmp 4) (w.heap.size + 1) y21 rfl rfl hW') hS0 ?_
          clear hS0
          refine one_L 2 (by kernel_rfl) rfl rfl fun K2 hK2 => ?_
          have HK2 := Lib.hid hK2
          clear hK2
          go_simp
          refine (KV.out _).mono ?_
          rintro e w9 ⟨rfl, b9⟩
          have HS10 := Lib.hid (HS9.out.below b9)
          refine HK2.out _ _ (fun _ _ => HS10.out.it) ?_
          refine one_L 3 (by kernel_rfl) rfl rfl fun K3 hK3 => ?_
          have HK3 := Lib.hid hK3
          clear hK3
          refine wo_storeI (.tmp 2) (.tmp 131) w.heap.size y21 zeroI rfl rfl HS10.out.res ?_
          have BF := Lib.hid (below_row HS10.out.bel (Nat.le_refl w.heap.size) (itA y21))
          have RF := Lib.hid (ItAt.row HS10.out.res y21)
          refine HK3.out _ _ (fun _ _ => HS10.out.it.rowFar (by show w.heap.size + 1 ≠ w.heap.size; omega) _) ?_
          refine one_L 4 (by kernel_rfl) rfl rfl fun K4 hK4 => ?_
          have HK4 := Lib.hid hK4
          clear hK4
          go_simp
          refine HK4.out _ _ (fun _ _ => HS10.out.it.rowFar (by show w.heap.size + 1 ≠ w.heap.size; omega) _) ?_
          refine done_L (by kernel_rfl) ?_ _
          clear HK2 HK3 HK4 HS9 HS10
          go_simp
          go_wp2_with fail
          refine bodyPost_ret (results_ct rfl rfl (show Blk _ w.heap.size 25 (itA y21) from RF.out) Tryz.underlying25 rfl (by kernel_rfl)) rfl ?_
          exact LinePost.said y21 vl R.out BF.out rfl
end Go.Proofs.YtefdjdipbnnoaaaGreatDoor
