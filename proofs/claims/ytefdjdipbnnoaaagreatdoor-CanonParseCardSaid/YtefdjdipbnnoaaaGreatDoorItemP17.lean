/-
  canon.item: the item of a line. Any line of at most 1,000,000 bytes.
-/
import Derived.Test.YtefdjdipbnnoaaaGreatDoorEnvP17
import Derived.Test.YtefdjdipbnnoaaaGreatDoorPlanL17
import Derived.Test.YtefdjdipbnnoaaaGreatDoorFormat17
namespace Go.Proofs.YtefdjdipbnnoaaaGreatDoor
open Go Go.RowKit
set_option linter.unusedVariables false
set_option linter.unusedSimpArgs false

/-- Where the numbers of an item are put. -/
theorem place_set (x : It) (g j : Nat) (hj : j < 21) :
    (∃ k n, (placesC g)[j * 2]? = some (.pointer (some ⟨g, k, none⟩)) ∧ (placesC g)[j * 2 + 1]? = some (.pointer none) ∧ (itA x)[k]? = some (.int .i64 n) ∧
      ∀ z, ∃ y : It, itA y = (itA x).setIfInBounds k (.int .i64 z) ∧ numsI y = (numsI x).set j z ∧ y.kind = x.kind) ∨
    ((j = 12 ∨ j = 14 ∨ j = 20) ∧ ∃ k b, (placesC g)[j * 2]? = some (.pointer none) ∧ (placesC g)[j * 2 + 1]? = some (.pointer (some ⟨g, k, none⟩)) ∧ (itA x)[k]? = some (.bool b) ∧
      ∀ z, ∃ y : It, itA y = (itA x).setIfInBounds k (.bool z) ∧ numsI y = (numsI x).set j (b2i z) ∧ y.kind = x.kind) := by
  match j, hj with
  | 0, _ => exact .inl ⟨1, x.block, rfl, rfl, rfl, fun z => ⟨{ x with block := z }, rfl, rfl, rfl⟩⟩
  | 1, _ => exact .inl ⟨2, x.fx, rfl, rfl, rfl, fun z => ⟨{ x with fx := z }, rfl, rfl, rfl⟩⟩
  | 2, _ => exact .inl ⟨3, x.fy, rfl, rfl, rfl, fun z => ⟨{ x with fy := z }, rfl, rfl, rfl⟩⟩
  | 3, _ => exact .inl ⟨4, x.fz, rfl, rfl, rfl, fun z => ⟨{ x with fz := z }, rfl, rfl, rfl⟩⟩
  | 4, _ => exact .inl ⟨5, x.tx, rfl, rfl, rfl, fun z => ⟨{ x with tx := z }, rfl, rfl, rfl⟩⟩
  | 5, _ => exact .inl ⟨6, x.ty, rfl, rfl, rfl, fun z => ⟨{ x with ty := z }, rfl, rfl, rfl⟩⟩
  | 6, _ => exact .inl ⟨7, x.tz, rfl, rfl, rfl, fun z => ⟨{ x with tz := z }, rfl, rfl, rfl⟩⟩
  | 7, _ => exact .inl ⟨8, x.plane, rfl, rfl, rfl, fun z => ⟨{ x with plane := z }, rfl, rfl, rfl⟩⟩
  | 8, _ => exact .inl ⟨9, x.cx, rfl, rfl, rfl, fun z => ⟨{ x with cx := z }, rfl, rfl, rfl⟩⟩
  | 9, _ => exact .inl ⟨10, x.cy, rfl, rfl, rfl, fun z => ⟨{ x with cy := z }, rfl, rfl, rfl⟩⟩
  | 10, _ => exact .inl ⟨11, x.cz, rfl, rfl, rfl, fun z => ⟨{ x with cz := z }, rfl, rfl, rfl⟩⟩
  | 11, _ => exact .inl ⟨12, x.dir, rfl, rfl, rfl, fun z => ⟨{ x with dir := z }, rfl, rfl, rfl⟩⟩
  | 12, _ => exact .inr ⟨.inl rfl, 13, x.full, rfl, rfl, rfl, fun z => ⟨{ x with full := z }, rfl, rfl, rfl⟩⟩
  | 13, _ => exact .inl ⟨14, x.feed, rfl, rfl, rfl, fun z => ⟨{ x with feed := z }, rfl, rfl, rfl⟩⟩
  | 14, _ => exact .inr ⟨.inr (.inl rfl), 15, x.perRev, rfl, rfl, rfl, fun z => ⟨{ x with perRev := z }, rfl, rfl, rfl⟩⟩
  | 15, _ => exact .inl ⟨16, x.side, rfl, rfl, rfl, fun z => ⟨{ x with side := z }, rfl, rfl, rfl⟩⟩
  | 16, _ => exact .inl ⟨17, x.radius, rfl, rfl, rfl, fun z => ⟨{ x with radius := z }, rfl, rfl, rfl⟩⟩
  | 17, _ => exact .inl ⟨18, x.blend, rfl, rfl, rfl, fun z => ⟨{ x with blend := z }, rfl, rfl, rfl⟩⟩
  | 18, _ => exact .inl ⟨19, x.n, rfl, rfl, rfl, fun z => ⟨{ x with n := z }, rfl, rfl, rfl⟩⟩
  | 19, _ => exact .inl ⟨20, x.speed, rfl, rfl, rfl, fun z => ⟨{ x with speed := z }, rfl, rfl, rfl⟩⟩
  | 20, _ => exact .inr ⟨.inr (.inr rfl), 21, x.on, rfl, rfl, rfl, fun z => ⟨{ x with on := z }, rfl, rfl, rfl⟩⟩
  | n + 21, h => exact absurd h (by omega)
/-- An item and whether it is one. -/
def LinePost (l : List UInt8) (w : World) (e : Ending) (w' : World) : Prop :=
  ∃ t ok, e = .returned (.tuple #[.agg (itA t), .bool ok]) ∧ itemF l = (if ok = true then some t else none) ∧ Below w.heap.size w w'
theorem LinePost.bad {l : List UInt8} {w w' : World} (t : It) (h : itemF l = none) (hb : Below w.heap.size w w') {e : Ending} (he : e = .returned (.tuple #[.agg (itA t), .bool false])) : LinePost l w e w' := ⟨t, false, he, h, hb⟩
theorem LinePost.said {l : List UInt8} {w w' : World} (t : It) (b : Bool) (h : itemF l = if b = true then some t else none) (hb : Below w.heap.size w w') {e : Ending} (he : e = .returned (.tuple #[.agg (itA t), .bool b])) : LinePost l w e w' := ⟨t, b, he, h, hb⟩
def kI (n : Nat) : It := { zeroI with kind := n }
theorem kI_numsI (n : Nat) : (kI n).kind = n := rfl
/-- The numbers so far are those of the words so far. -/
def SoFar (i : It) (ws : List (List UInt8)) (k : Nat) : Prop := ∀ j x, j < k → (numsI i)[j]? = some x → ws[j]? = some (Lib.itoa x)
theorem SoFar.zero (i : It) (ws : List (List UInt8)) : SoFar i ws 0 := fun j x h => by omega
theorem SoFar.next {i y : It} {ws : List (List UInt8)} {k : Nat} {z : Int} (h : SoFar i ws k) (hy : numsI y = (numsI i).set k z) (hw : ws[k]? = some (Lib.itoa z)) : SoFar y ws (k + 1) := by
  intro j x hj hx
  rw [hy] at hx
  by_cases e : j = k
  · subst e
    rw [List.getElem?_set_self' ] at hx
    cases hn : (numsI i)[j]? with
    | none => rw [hn] at hx; simp at hx
    | some u => rw [hn] at hx; simp at hx; subst hx; exact hw
  · rw [List.getElem?_set_ne (Ne.symm e)] at hx
    exact h j x (by omega) hx
theorem SoFar.all {i : It} {ws : List (List UInt8)} (h : SoFar i ws 21) (hl : ws.length = 21) : (numsI i).map Lib.itoa = ws := by
  apply List.ext_getElem?
  intro j
  rw [List.getElem?_map]
  by_cases hj : j < 21
  · have : j < (numsI i).length := hj
    rw [List.getElem?_eq_getElem this, h j _ hj (List.getElem?_eq_getElem this)]
    rfl
  · rw [List.getElem?_eq_none (show (numsI i).length ≤ j from by show 21 ≤ j; omega), List.getElem?_eq_none (by omega)]
    rfl
/-- What stands in the world while a line is read. -/
structure LS (w : World) (L : List (List UInt8)) (i : It) (W : World) : Prop where
  res : ItAt W w.heap.size zeroI
  it : ItAt W (w.heap.size + 1) i
  row : Blk W (w.heap.size + 2) 9 ((L.map mkB).map Value.string).toArray
  bel : Below w.heap.size w W
  env : EnvP W
section
variable {w W W' : World} {L : List (List UInt8)} {i y : It}
theorem LS.below (h : LS w L i W) (b : Below W.heap.size W W') : LS w L i W' := ⟨h.res.below b, h.it.below b, h.row.below b h.row.lt, h.bel.trans (b.mono h.bel.size), h.env.below b h.env.low⟩
theorem LS.set (h : LS w L i W) (hlow : 9 ≤ w.heap.size) (k : Nat) (u : Value) (hy : itA y = (itA i).setIfInBounds k u) : LS w L y (W.setCell ⟨w.heap.size + 1, k, none⟩ u) :=
  ⟨h.res.far (by show w.heap.size ≠ w.heap.size + 1; omega) u, by have := Blk.put h.it k u; rw [← hy] at this; exact this, h.row.far (by show w.heap.size + 2 ≠ w.heap.size + 1; omega) u, h.bel.setCell (by show w.heap.size ≤ w.heap.size + 1; omega) u,
    h.env.below ((Below.refl (w.heap.size + 1) W).setCell (by exact Nat.le_refl _) u) (by omega)⟩
theorem LS.word (h : LS w L i W) {j : Nat} {x : List UInt8} (hx : L[j]? = some x) : W.cell? ⟨w.heap.size + 2, j, none⟩ = some (.string (mkB x)) := h.row.cell' j (by simp [hx])
end
theorem kindN_step {k : Nat} (h : 1 ≤ k) (w : List UInt8) : kindN k w = if w = kname k then k else kindN (k - 1) w := by
  obtain ⟨m, rfl⟩ : ∃ m, k = m + 1 := ⟨k - 1, by omega⟩
  rfl
theorem str_eq (a b : List UInt8) (h : a = b) : ((mkB a).toList == (mkB b).toList) = true := by rw [h]; simp
theorem str_ne (a b : List UInt8) (h : a ≠ b) : ((mkB a).toList == (mkB b).toList) = false := by
  rw [toList_bl, toList_bl, bl_mkB, bl_mkB]
  exact beq_eq_false_iff_ne.2 h
theorem read_ok {x : List UInt8} (h : ∀ v, Lib.atoiAll x ≠ .ok v) : readF x = none := by
  cases hr : readF x with
  | none => rfl
  | some z =>
    obtain ⟨h1, h2⟩ := read_iff.1 hr
    have h3 := atoi_itoa h1
    rw [h2] at h3
    exact absurd h3 (h z)
theorem read_ne {x : List UInt8} {v : Int} (h : Lib.atoiAll x = .ok v) (he : Lib.itoa v ≠ x) : readF x = none := by
  cases hr : readF x with
  | none => rfl
  | some z =>
    obtain ⟨h1, h2⟩ := read_iff.1 hr
    have h3 := atoi_itoa h1
    rw [h2, h] at h3
    injection h3 with h3
    exact absurd (h3 ▸ h2) he
theorem exec_item {a : Act} {w : World} {o : Oper} (x : Operand) (g : Nat) (i : It) (ho : o.op = .load 25 x) (hx : a.eval x = .pointer (some ⟨g, 0, none⟩)) (hI : ItAt w g i) : (execOp a.eval o).run Tryz.prog w = .ok (.value (.agg (itA i))) w := by
  have hl : (Instr.loadAt 25 (.pointer (some ⟨g, 0, none⟩))).run Tryz.prog w = .ok (.agg (itA i)) w := load_of (cs := (itA i).toList) hI Tryz.underlying25 rfl (by kernel_rfl)
  unfold execOp
  simp only [ho, hx, Sem.run_bind, hl, Result.andThen_ok, Sem.run_pure]
theorem wo_storeI {a : Act} {w : World} {K : Act → World → Prop} {Q : Exit → Act → World → Prop} {dst : Option Tmp} {ty0 : TypeId} {pos : String} {after : Array Edge} {gd : Option (Nat × Bool)} (x y : Operand) (g : Nat) (i o : It)
    (hx : a.eval x = .pointer (some ⟨g, 0, none⟩)) (hy : a.eval y = .agg (itA i)) (hI : ItAt w g o) (h : K (a.put dst undef) (w.setRow g (itA i))) : Oper.wp Tryz.prog ⟨dst, .store 25 x y, ty0, pos, after, gd⟩ a w K Q :=
  wp_store_row 25 x y rfl g (itA i) hx hy 25 (itA o) hI (by kernel_rfl) rfl (itA_one i) h
attribute [local go_sem] itA_0 itA_1 itA_2 itA_3 itA_4 itA_5 itA_6 itA_7 itA_8 itA_9 itA_10 itA_11 itA_12 itA_13 itA_14 itA_15 itA_16 itA_17 itA_18 itA_19 itA_20 itA_21
set_option maxRecDepth 100000 in
set_option maxHeartbeats 8000000 in
theorem item_any (s : ByteArray) (hs : s.size ≤ 1000000) (w : World) (hE : EnvP w) : Calls Tryz.prog 39 #[.string s] w (LinePost (bl s) w) := by
  have hlow := hE.low
  obtain ⟨W1, hW1⟩ : ∃ W, (w.alloc (.cells (itA zeroI) 25)).alloc (.cells (itA zeroI) 25) = W := ⟨_, rfl⟩
  have hsz1 : W1.heap.size = w.heap.size + 2 := by rw [← hW1]; simp
  have B1 : Below w.heap.size w W1 := by rw [← hW1]; exact ((Below.refl _ _).alloc (Nat.le_refl _) _).alloc (by simp) _
  have R1 : ItAt W1 w.heap.size zeroI := by rw [← hW1]; exact (ItAt.new w zeroI).alloc _
  have I1 : ItAt W1 (w.heap.size + 1) zeroI := by rw [← hW1]; exact blk_new1 w _ _ _
  have KS := split_run 32 s hs W1 (hE.below B1 hlow)
  rw [hsz1] at KS
  obtain ⟨w0, ws, hL⟩ : ∃ a b, splitL 32 (bl s) = a :: b := by
    cases h : splitL 32 (bl s) with
    | nil => exact absurd h (splitL_ne _ _)
    | cons a b => exact ⟨a, b, rfl⟩
  have hsp := hL
  rw [hL] at KS
  have hjn := join_split hL
  have hlen : w0.length ≤ 1000000 ∧ ∀ x ∈ ws, x.length ≤ 1000000 := by
    have h1 := congrArg List.length hjn
    rw [bl_len, List.length_append] at h1
    refine ⟨by omega, fun x hx => ?_⟩
    obtain ⟨p, q, rfl⟩ := List.append_of_mem hx
    unfold joinW at h1
    rw [List.flatMap_append, List.flatMap_cons, List.length_append, List.length_append, List.length_cons] at h1
    omega
  have HWL := Lib.hid hlen.2
  have HSP := Lib.hid hsp
  obtain ⟨N, hN⟩ : ∃ N, (w0 :: ws).length = N := ⟨_, rfl⟩
  have HN := Lib.hid hN
  have hN1 : 1 ≤ N := by rw [← hN]; simp
  rw [hN] at KS
  have hS0 : LS w (w0 :: ws) (kI 0) (W1.alloc (.cells (((w0 :: ws).map mkB).map Value.string).toArray 9)) :=
    ⟨R1.alloc _, I1.alloc _, by rw [← hsz1]; exact Blk.new W1 _ _, B1.alloc (by omega) _, hE.below (B1.alloc (by omega) _) hlow⟩
  generalize W1.alloc (.cells (((w0 :: ws).map mkB).map Value.string).toArray 9) = W2 at KS hS0
  have KS := Lib.hid KS
  have HS0 := Lib.hid hS0
  have i0 : (0 : Int) < (N : Int) := by omega
  clear hsp hL hjn hlen hN R1 I1 B1 hS0 hE hsz1
  go_enter Tryz.func39, Tryz.ntmps39
  go_wp2_with ((with_reducible refine go_allocI ?_))
  try rw [hW1]
  refine KS.out.mono ?_
  rintro e w' ⟨rfl, rfl⟩
  clear KS
  go_wp2_with fail
  go_loopw [6] (fun s6 wr => ∃ k : Nat, 1 ≤ k ∧ k ≤ 15 ∧ s6 = .int .i64 k ∧ LS w (w0 :: ws) (kI (kindN (k - 1) w0)) wr) (fun s6 _ => 15 - (intOf s6).toNat)
  case atStart => exact ⟨1, by omega, by omega, rfl, HS0.out⟩
  case round =>
    obtain ⟨k, hk1, hk15, rfl, hS⟩ := hrel
    have HS := Lib.hid hS
    clear hS HS0
    by_cases hk : k ≤ 14
    · have e1 : decide ((k : Int) ≤ 14) = true := decide_eq_true (by omega)
      have e1' : decide (k ≤ 14) = true := decide_eq_true hk
      have q0 : wr.cell? ⟨w.heap.size + 2, 0, none⟩ = some (.string (mkB w0)) := HS.out.word (j := 0) rfl
      have q1 := HS.out.env.env.names.cell k (by omega)
      have j0 : (0 : Int) ≤ (k : Int) := by omega
      have j1 : (k : Int) < 15 := by omega
      have hst := kindN_step hk1 w0
      go_upto_region 6 with fail
      let S : World → Prop := fun W => LS w (w0 :: ws) (kI (kindN (k - 1) w0)) W
      have hs : S wr.drew := HS.out.below (Below.refl _ _).drew
      have inst : Nonempty (At S) := ⟨⟨_, hs⟩⟩
      have C1 : ∀ p : At S, p.w.cell? ⟨w.heap.size + 2, 0, none⟩ = some (.string (mkB w0)) := fun p => p.ok.word (j := 0) rfl
      have C2 : ∀ p : At S, p.w.cell? ⟨0, k, none⟩ = some (.string (mkB (kname k))) := fun p => p.ok.env.env.names.cell k (by omega)
      have HF : Hid (∀ p : At S, LS w (w0 :: ws) (kI (kindN (k - 1) w0)) p.w) := Lib.hid (fun p => p.ok)
      clear_value S
      refine wp_region_at S (by kernel_rfl) (by kernel_rfl) hs ?_
      repeat (go_big_quiet_step (fail))
      refine wpQuiet_nil ?_
      rintro _ ⟨p, rfl⟩
      have hS2 := HF.out p
      generalize p.w = W2 at hS2 ⊢
      have HS2 := Lib.hid hS2
      clear HF inst hs C1 C2 q0 q1 HS p hS2
      obtain ⟨eb, heb⟩ : ∃ b, ((mkB w0).toList == (mkB (kname k)).toList) = b := ⟨_, rfl⟩
      rw [heb]
      cases eb
      · have hq : ¬ w0 = kname k := fun e => by rw [str_eq _ _ e] at heb; cases heb
        rw [if_neg hq] at hst
        have HST := Lib.hid hst
        clear hq hst heb
        go_wp2_with fail
        go_roundw
        case rel => exact ⟨k + 1, by omega, by omega, by go_num, by rw [show k + 1 - 1 = k by omega, HST.out]; exact HS2.out⟩
        case measure => simp [intOf]; omega
      · have hq : w0 = kname k := Classical.byContradiction fun e => by rw [str_ne _ _ e] at heb; cases heb
        rw [if_pos hq] at hst
        have HS3 := HS2.out.set hlow 0 (.int .i64 (k : Int)) (y := kI (kindN k w0)) (by rw [hst]; rfl)
        have HS3 := Lib.hid HS3
        have f0 := HS2.out.it.frozen 0
        have c0 := HS2.out.it.c0
        clear hq hst heb
        go_wp2_with fail
        go_roundw
        case rel => exact ⟨k + 1, by omega, by omega, by go_num, HS3.out⟩
        case measure => simp [intOf]; omega
    · obtain rfl : k = 15 := by omega
      have e1 : decide ((15 : Int) ≤ 14) = false := rfl
      obtain ⟨K, hK⟩ : ∃ K, kindF w0 = K := ⟨_, rfl⟩
      have HK0 := Lib.hid hK
      have hK14 : K ≤ 14 := by rw [← hK]; exact kindF_le w0
      have hS : LS w (w0 :: ws) (kI K) wr := by have := HS.out; rw [← hK]; exact this
      have KP := Lib.hid (places_any (w.heap.size + 1) (kI K) wr hS.it)
      have HS := Lib.hid hS
      clear hK hS hk1 hk15 hk
      go_wp2_with fail
      refine KP.out.mono ?_
      rintro e w8 ⟨G, c8, rfl, own8, b8⟩
      obtain ⟨cur, C8, hGb, hcur⟩ := places_cells own8
      have HS8 := Lib.hid (HS.out.below b8)
      have HC8 := Lib.hid C8
      have HCUR := Lib.hid hcur
      have c0 : w8.cell? ⟨w.heap.size + 1, 0, none⟩ = some (.int .i64 (K : Int)) := HS8.out.it.c0
      have hGl : w.heap.size + 2 < G := Nat.lt_of_lt_of_le HS.out.row.lt hGb
      clear own8 b8 C8 hcur KP HS hGb
      by_cases hK0 : K = 0
      · have k0 : ((K : Int) == 0) = true := beq_iff_eq.2 (by omega)
        have R := Lib.hid (item_kind HSP.out (HK0.out.trans hK0))
        clear hK0
        go_wp2_with (first
          | ((with_reducible refine go_built 25 #[] (itA zeroI) (by with_unfolding_all kernel_rfl) ?_))
          | ((with_reducible refine go_storeI (.tmp 2) (.tmp 40) w.heap.size zeroI zeroI (by with_unfolding_all rfl) (by with_unfolding_all rfl) HS8.out.res ?_)))
        refine bodyPost_ret (results_ct rfl rfl (show Blk _ w.heap.size 25 (itA zeroI) from ItAt.row HS8.out.res zeroI) Tryz.underlying25 rfl (by kernel_rfl)) rfl ?_
        exact LinePost.bad zeroI R.out (below_row HS8.out.bel (Nat.le_refl _) _) rfl
      have k0 : ((K : Int) == 0) = false := beq_eq_false_iff_ne.2 (by omega)
      by_cases hN22 : N = 22
      rotate_left
      · have n0 : ((N : Int) != 22) = true := bne_iff_ne.2 (by omega)
        have R := Lib.hid (item_short (l := bl s) (by rw [HSP.out, HN.out]; exact hN22))
        clear hN22
        go_wp2_with (first
          | ((with_reducible refine go_built 25 #[] (itA zeroI) (by with_unfolding_all kernel_rfl) ?_))
          | ((with_reducible refine go_storeI (.tmp 2) (.tmp 40) w.heap.size zeroI zeroI (by with_unfolding_all rfl) (by with_unfolding_all rfl) HS8.out.res ?_)))
        refine bodyPost_ret (results_ct rfl rfl (show Blk _ w.heap.size 25 (itA zeroI) from ItAt.row HS8.out.res zeroI) Tryz.underlying25 rfl (by kernel_rfl)) rfl ?_
        exact LinePost.bad zeroI R.out (below_row HS8.out.bel (Nat.le_refl _) _) rfl
      subst hN22
      have HWN := Lib.hid (show ws.length = 21 by have := HN.out; simpa using this)
      have HKN := Lib.hid (show kname K = w0 by rw [← HK0.out]; exact kindF_name (by rw [HK0.out]; exact hK0))
      have hKp : 1 ≤ K := by omega
      clear hN1 i0 hK0
      go_wp2_with fail
      go_loopw [43] (fun s43 wr => ∃ (k : Nat) (i : It), k ≤ 21 ∧ s43 = .int .i64 k ∧ i.kind = (K : Int) ∧ SoFar i ws k ∧ LS w (w0 :: ws) i wr ∧ Blk wr G 78 cur) (fun s43 _ => 21 - (intOf s43).toNat)
      case atStart => exact ⟨0, kI K, by omega, rfl, rfl, SoFar.zero _ _, HS8.out, HC8.out⟩
      case round =>
        obtain ⟨k, i, hk21, rfl, hik, hsf, hS, hC⟩ := hrel
        have HS := Lib.hid hS
        have HC := Lib.hid hC
        have HK := Lib.hid hik
        have HSF := Lib.hid hsf
        clear hS hC hik hsf HS8 HC8 c0
        by_cases hk : k < 21
        · have e1 : decide ((k : Int) < 21) = true := decide_eq_true (by omega)
          have e1' : decide (k < 21) = true := decide_eq_true hk
          have j0 : (0 : Int) ≤ (k : Int) := by omega
          have j1 : (k : Int) < 21 := by omega
          have j2 : (0 : Int) ≤ (k : Int) + 1 := by omega
          have j3 : (k : Int) + 1 < 22 := by omega
          obtain ⟨x, hx⟩ : ∃ x, ws[k]? = some x := ⟨ws[k]'(by rw [HWN.out]; exact hk), List.getElem?_eq_getElem _⟩
          have q0 : wr.cell? ⟨w.heap.size + 2, k + 1, none⟩ = some (.string (mkB x)) := HS.out.word (j := k + 1) (by simpa using hx)
          have lP : w.heap.size + 2 < wr.heap.size := HS.out.row.lt
          have lG : G < wr.heap.size := HC.out.lt
          have lJ : w.heap.size + 1 < wr.heap.size := HS.out.it.lt
          have hxl : x.length ≤ 1000000 := HWL.out x (List.mem_of_getElem? hx)
          have HX := Lib.hid hx
          clear hx
          rcases place_set i (w.heap.size + 1) k hk with ⟨kc, nv, p1, p2, p3, p4⟩ | ⟨hfl, kc, bv, p1, p2, p3, p4⟩
          · have g0 : wr.cell? ⟨G, k * 2, none⟩ = some (.pointer (some ⟨w.heap.size + 1, kc, none⟩)) := HC.out.cell' _ (HCUR.out _ _ p1)
            have g1 : wr.cell? ⟨G, k * 2 + 1, none⟩ = some (.pointer none) := HC.out.cell' _ (HCUR.out _ _ p2)
            have HKC := Lib.hid p3
            have HSET := Lib.hid p4
            clear p1 p2 p3 p4
            go_upto_region 15 with fail
            refine wp_told (fun W => LS w (w0 :: ws) i W ∧ Blk W G 78 cur ∧ Blk W wr.heap.size 78 #[.pointer (some ⟨w.heap.size + 1, kc, none⟩), .pointer none]) ⟨HS.out.below ((Below.refl _ _).alloc (Nat.le_refl _) _), HC.out.alloc _, Blk.new _ _ _⟩ ?_
            rintro W6 ⟨hs6, hc6, ht6⟩
            obtain ⟨T, hT⟩ : ∃ T, wr.heap.size = T := ⟨_, rfl⟩
            rw [hT] at ht6 lP lG lJ ⊢
            have HS6 := Lib.hid hs6
            have HC6 := Lib.hid hc6
            have HT6 := Lib.hid ht6
            clear hT hs6 hc6 ht6 HS HC g0 g1 q0
            by_cases hok : ∃ v, Lib.atoiAll x = .ok v
            · obtain ⟨v, hv⟩ := hok
              have KA := atoi_okB (mkB x) (by rw [mkB_size]; omega) v (by rw [bl_mkB]; exact hv) W6
              have KA := Lib.hid KA
              have hbd := Lib.atoiAll_bounds hv
              go_wp2_with fail
              refine KA.out.mono ?_
              rintro e w7 ⟨rfl, b7⟩
              have HS7 := Lib.hid (HS6.out.below b7)
              have HC7 := Lib.hid (HC6.out.below b7 HC6.out.lt)
              have HT7 := Lib.hid (HT6.out.below b7 HT6.out.lt)
              have KI := Lib.hid (itoa_run v hbd w7 HS7.out.env)
              clear b7 KA HS6 HC6 HT6
              by_cases he : Lib.itoa v = x
              · have se := str_eq _ _ he
                have HITO := Lib.hid he
                clear he hv
                go_wp2_with fail
                refine KI.out.mono ?_
                rintro e w8 ⟨rfl, b8⟩
                have HS8 := Lib.hid (HS7.out.below b8)
                have HC8 := Lib.hid (HC7.out.below b8 HC7.out.lt)
                have HT8 := Lib.hid (HT7.out.below b8 HT7.out.lt)
                have t0 : w8.cell? ⟨T, 0, none⟩ = some (.pointer (some ⟨w.heap.size + 1, kc, none⟩)) := HT8.out.cell' 0 rfl
                have t1 : w8.cell? ⟨T, 1, none⟩ = some (.pointer none) := HT8.out.cell' 1 rfl
                clear b8 KI HS7 HC7 HT7
                obtain ⟨y, hy1, hy2, hy3⟩ := HSET.out v
                have gk : w8.cell? ⟨w.heap.size + 1, kc, none⟩ = some (.int .i64 nv) := Blk.cell' HS8.out.it _ HKC.out
                have fk := HS8.out.it.frozen kc
                have HS9 := Lib.hid (HS8.out.set hlow kc (.int .i64 v) hy1)
                have HC9 := Lib.hid (HC8.out.far (by show G ≠ w.heap.size + 1; omega) (p := ⟨w.heap.size + 1, kc, none⟩) (.int .i64 v))
                have HY := Lib.hid (And.intro hy2 hy3)
                clear hy1 hy2 hy3 HS8 HC8 HT8
                go_wp2_with fail
                go_roundw
                case rel => exact ⟨k + 1, y, by omega, by go_num, HY.out.2.trans HK.out, HSF.out.next HY.out.1 (by rw [HITO.out]; exact HX.out), HS9.out, HC9.out⟩
                case measure => simp [intOf]; omega
              · have se := str_ne _ _ he
                have R := Lib.hid (item_word HSP.out HX.out (read_ne hv he))
                clear he hv
                go_wp2_with fail
                refine KI.out.mono ?_
                rintro e w8 ⟨rfl, b8⟩
                have HS8 := Lib.hid (HS7.out.below b8)
                clear b8 KI HS7 HC7 HT7
                go_wp2_with (first
                  | ((with_reducible refine go_built 25 #[] (itA zeroI) (by with_unfolding_all kernel_rfl) ?_))
                  | ((with_reducible refine go_storeI (.tmp 2) (.tmp 66) w.heap.size zeroI zeroI (by with_unfolding_all rfl) (by with_unfolding_all rfl) HS8.out.res ?_)))
                refine bodyPost_ret (results_ct rfl rfl (show Blk _ w.heap.size 25 (itA zeroI) from ItAt.row HS8.out.res zeroI) Tryz.underlying25 rfl (by kernel_rfl)) rfl ?_
                exact LinePost.bad zeroI R.out (below_row HS8.out.bel (Nat.le_refl _) _) rfl
            · have R := Lib.hid (item_word HSP.out HX.out (read_ok (fun v h => hok ⟨v, h⟩)))
              have KA := Lib.hid (atoi_bad (mkB x) (by rw [mkB_size]; omega) (fun v h => hok ⟨v, by rwa [bl_mkB] at h⟩) W6 HS6.out.env)
              clear hok
              go_wp2_with fail
              refine KA.out.mono ?_
              rintro e w7 ⟨n, te, pe, rfl, b7⟩
              have HS7 := Lib.hid (HS6.out.below b7)
              clear b7 KA HS6 HC6 HT6
              go_wp2_with (first
                | ((with_reducible refine go_built 25 #[] (itA zeroI) (by with_unfolding_all kernel_rfl) ?_))
                | ((with_reducible refine go_storeI (.tmp 2) (.tmp 66) w.heap.size zeroI zeroI (by with_unfolding_all rfl) (by with_unfolding_all rfl) HS7.out.res ?_)))
              refine bodyPost_ret (results_ct rfl rfl (show Blk _ w.heap.size 25 (itA zeroI) from ItAt.row HS7.out.res zeroI) Tryz.underlying25 rfl (by kernel_rfl)) rfl ?_
              exact LinePost.bad zeroI R.out (below_row HS7.out.bel (Nat.le_refl _) _) rfl
          · have g0 : wr.cell? ⟨G, k * 2, none⟩ = some (.pointer none) := HC.out.cell' _ (HCUR.out _ _ p1)
            have g1 : wr.cell? ⟨G, k * 2 + 1, none⟩ = some (.pointer (some ⟨w.heap.size + 1, kc, none⟩)) := HC.out.cell' _ (HCUR.out _ _ p2)
            have HKC := Lib.hid p3
            have HSET := Lib.hid p4
            have HFL := Lib.hid hfl
            clear p1 p2 p3 p4 hfl
            go_upto_region 15 with fail
            refine wp_told (fun W => LS w (w0 :: ws) i W ∧ Blk W G 78 cur ∧ Blk W wr.heap.size 78 #[.pointer none, .pointer (some ⟨w.heap.size + 1, kc, none⟩)]) ⟨HS.out.below ((Below.refl _ _).alloc (Nat.le_refl _) _), HC.out.alloc _, Blk.new _ _ _⟩ ?_
            rintro W6 ⟨hs6, hc6, ht6⟩
            obtain ⟨T, hT⟩ : ∃ T, wr.heap.size = T := ⟨_, rfl⟩
            rw [hT] at ht6 lP lG lJ ⊢
            have HS6 := Lib.hid hs6
            have HC6 := Lib.hid hc6
            have HT6 := Lib.hid ht6
            clear hT hs6 hc6 ht6 HS HC g0 g1 q0
            by_cases hok : ∃ v, Lib.atoiAll x = .ok v
            · obtain ⟨v, hv⟩ := hok
              have KA := atoi_okB (mkB x) (by rw [mkB_size]; omega) v (by rw [bl_mkB]; exact hv) W6
              have KA := Lib.hid KA
              have hbd := Lib.atoiAll_bounds hv
              go_wp2_with fail
              refine KA.out.mono ?_
              rintro e w7 ⟨rfl, b7⟩
              have HS7 := Lib.hid (HS6.out.below b7)
              have HC7 := Lib.hid (HC6.out.below b7 HC6.out.lt)
              have HT7 := Lib.hid (HT6.out.below b7 HT6.out.lt)
              have KI := Lib.hid (itoa_run v hbd w7 HS7.out.env)
              clear b7 KA HS6 HC6 HT6
              by_cases he : Lib.itoa v = x
              · have se := str_eq _ _ he
                have HITO := Lib.hid he
                clear he hv
                go_wp2_with fail
                refine KI.out.mono ?_
                rintro e w8 ⟨rfl, b8⟩
                have HS8 := Lib.hid (HS7.out.below b8)
                have HC8 := Lib.hid (HC7.out.below b8 HC7.out.lt)
                have HT8 := Lib.hid (HT7.out.below b8 HT7.out.lt)
                have t0 : w8.cell? ⟨T, 0, none⟩ = some (.pointer none) := HT8.out.cell' 0 rfl
                have t1 : w8.cell? ⟨T, 1, none⟩ = some (.pointer (some ⟨w.heap.size + 1, kc, none⟩)) := HT8.out.cell' 1 rfl
                clear b8 KI HS7 HC7 HT7
                by_cases h01 : is01 v = true
                · have hcase : v = 0 ∨ v = 1 := by
                    unfold is01 at h01
                    simpa using h01
                  rcases hcase with rfl | rfl
                  · skip
                    obtain ⟨y, hy1, hy2, hy3⟩ := HSET.out false
                    have gk : w8.cell? ⟨w.heap.size + 1, kc, none⟩ = some (.bool bv) := Blk.cell' HS8.out.it _ HKC.out
                    have fk := HS8.out.it.frozen kc
                    have HS9 := Lib.hid (HS8.out.set hlow kc (.bool false) hy1)
                    have HC9 := Lib.hid (HC8.out.far (by show G ≠ w.heap.size + 1; omega) (p := ⟨w.heap.size + 1, kc, none⟩) (.bool false))
                    have HY := Lib.hid (And.intro hy2 hy3)
                    clear hy1 hy2 hy3 HS8 HC8 HT8 h01
                    go_wp2_with fail
                    go_roundw
                    case rel => exact ⟨k + 1, y, by omega, by go_num, HY.out.2.trans HK.out, HSF.out.next (z := 0) HY.out.1 (by rw [HITO.out]; exact HX.out), HS9.out, HC9.out⟩
                    case measure => simp [intOf]; omega
                  · skip
                    obtain ⟨y, hy1, hy2, hy3⟩ := HSET.out true
                    have gk : w8.cell? ⟨w.heap.size + 1, kc, none⟩ = some (.bool bv) := Blk.cell' HS8.out.it _ HKC.out
                    have fk := HS8.out.it.frozen kc
                    have HS9 := Lib.hid (HS8.out.set hlow kc (.bool true) hy1)
                    have HC9 := Lib.hid (HC8.out.far (by show G ≠ w.heap.size + 1; omega) (p := ⟨w.heap.size + 1, kc, none⟩) (.bool true))
                    have HY := Lib.hid (And.intro hy2 hy3)
                    clear hy1 hy2 hy3 HS8 HC8 HT8 h01
                    go_wp2_with fail
                    go_roundw
                    case rel => exact ⟨k + 1, y, by omega, by go_num, HY.out.2.trans HK.out, HSF.out.next (z := 1) HY.out.1 (by rw [HITO.out]; exact HX.out), HS9.out, HC9.out⟩
                    case measure => simp [intOf]; omega
                · have h01 : is01 v = false := by simpa using h01
                  have R := Lib.hid (item_flag HSP.out HX.out HITO.out HFL.out h01)
                  have v0 : (v == 0) = false := by
                    unfold is01 at h01
                    simp at h01
                    simpa using h01.1
                  have v1 : (v == 1) = false := by
                    unfold is01 at h01
                    simp at h01
                    simpa using h01.2
                  clear h01
                  go_wp2_with (first
                    | ((with_reducible refine go_built 25 #[] (itA zeroI) (by with_unfolding_all kernel_rfl) ?_))
                    | ((with_reducible refine go_storeI (.tmp 2) (.tmp 67) w.heap.size zeroI zeroI (by with_unfolding_all rfl) (by with_unfolding_all rfl) HS8.out.res ?_)))
                  refine bodyPost_ret (results_ct rfl rfl (show Blk _ w.heap.size 25 (itA zeroI) from ItAt.row HS8.out.res zeroI) Tryz.underlying25 rfl (by kernel_rfl)) rfl ?_
                  exact LinePost.bad zeroI R.out (below_row HS8.out.bel (Nat.le_refl _) _) rfl
              · have se := str_ne _ _ he
                have R := Lib.hid (item_word HSP.out HX.out (read_ne hv he))
                clear he hv
                go_wp2_with fail
                refine KI.out.mono ?_
                rintro e w8 ⟨rfl, b8⟩
                have HS8 := Lib.hid (HS7.out.below b8)
                clear b8 KI HS7 HC7 HT7
                go_wp2_with (first
                  | ((with_reducible refine go_built 25 #[] (itA zeroI) (by with_unfolding_all kernel_rfl) ?_))
                  | ((with_reducible refine go_storeI (.tmp 2) (.tmp 66) w.heap.size zeroI zeroI (by with_unfolding_all rfl) (by with_unfolding_all rfl) HS8.out.res ?_)))
                refine bodyPost_ret (results_ct rfl rfl (show Blk _ w.heap.size 25 (itA zeroI) from ItAt.row HS8.out.res zeroI) Tryz.underlying25 rfl (by kernel_rfl)) rfl ?_
                exact LinePost.bad zeroI R.out (below_row HS8.out.bel (Nat.le_refl _) _) rfl
            · have R := Lib.hid (item_word HSP.out HX.out (read_ok (fun v h => hok ⟨v, h⟩)))
              have KA := Lib.hid (atoi_bad (mkB x) (by rw [mkB_size]; omega) (fun v h => hok ⟨v, by rwa [bl_mkB] at h⟩) W6 HS6.out.env)
              clear hok
              go_wp2_with fail
              refine KA.out.mono ?_
              rintro e w7 ⟨n, te, pe, rfl, b7⟩
              have HS7 := Lib.hid (HS6.out.below b7)
              clear b7 KA HS6 HC6 HT6
              go_wp2_with (first
                | ((with_reducible refine go_built 25 #[] (itA zeroI) (by with_unfolding_all kernel_rfl) ?_))
                | ((with_reducible refine go_storeI (.tmp 2) (.tmp 66) w.heap.size zeroI zeroI (by with_unfolding_all rfl) (by with_unfolding_all rfl) HS7.out.res ?_)))
              refine bodyPost_ret (results_ct rfl rfl (show Blk _ w.heap.size 25 (itA zeroI) from ItAt.row HS7.out.res zeroI) Tryz.underlying25 rfl (by kernel_rfl)) rfl ?_
              exact LinePost.bad zeroI R.out (below_row HS7.out.bel (Nat.le_refl _) _) rfl
        · obtain rfl : k = 21 := by omega
          have e1 : decide ((21 : Int) < 21) = false := rfl
          have hbody : bodyI i = bl s := body_of HSP.out (by rw [HK.out]; exact HKN.out) (HSF.out.all HWN.out)
          have hsaid := item_said (i := i) (by have := HK.out; omega) hbody
          clear hbody
          obtain ⟨vl, hvl⟩ : ∃ b, validI i = b := ⟨_, rfl⟩
          rw [hvl] at hsaid
          have R := Lib.hid hsaid
          have KV := fun W => cvalid_any i W
          rw [hvl] at KV
          have KV := Lib.hid KV
          clear hvl hsaid
          go_upto_region 24 with fail
          have HS9 := Lib.hid (HS.out.below (Below.refl _ _).drew)
          have hS0 := HS9.out.it
          refine region_L (fun W => ItAt W (w.heap.size + 1) i) [] (by kernel_rfl) ?_
          refine take_L 0 (v := .agg (itA i)) rfl (by kernel_rfl) (by kernel_rfl) (by kernel_rfl) (by kernel_rfl) (fun _ _ _ h => h) rfl (fun W' hW' => by exact exec_item (.tmp 4) (w.heap.size + 1) i rfl rfl hW') hS0 ?_
          refine take_L 1 (v := .agg (itA i)) rfl (by kernel_rfl) (by kernel_rfl) (by kernel_rfl) (by kernel_rfl) (fun _ _ _ h => h) rfl (fun W' hW' => by exact exec_item (.tmp 4) (w.heap.size + 1) i rfl rfl hW') hS0 ?_
          clear hS0
          refine one_L 2 (by kernel_rfl) rfl rfl fun K2 hK2 => ?_
          have HK2 := Lib.hid hK2
          clear hK2
          go_simp
          refine (KV.out _).mono ?_
          rintro e w9 ⟨rfl, b9⟩
          have HS10 := Lib.hid (HS9.out.below b9)
          refine HK2.out _ _ (fun _ _ => HS10.out.it) ?_
          refine one_L 3 (by kernel_rfl) rfl rfl fun K3 hK3 => ?_
          have HK3 := Lib.hid hK3
          clear hK3
          refine wo_storeI (.tmp 2) (.tmp 89) w.heap.size i zeroI rfl rfl HS10.out.res ?_
          have BF := Lib.hid (below_row HS10.out.bel (Nat.le_refl w.heap.size) (itA i))
          have RF := Lib.hid (ItAt.row HS10.out.res i)
          refine HK3.out _ _ (fun _ _ => HS10.out.it.rowFar (by show w.heap.size + 1 ≠ w.heap.size; omega) _) ?_
          refine one_L 4 (by kernel_rfl) rfl rfl fun K4 hK4 => ?_
          have HK4 := Lib.hid hK4
          clear hK4
          go_simp
          refine HK4.out _ _ (fun _ _ => HS10.out.it.rowFar (by show w.heap.size + 1 ≠ w.heap.size; omega) _) ?_
          refine done_L (by kernel_rfl) ?_ _
          clear HK2 HK3 HK4 HS9 HS10
          go_simp
          go_wp2_with fail
          refine bodyPost_ret (results_ct rfl rfl (show Blk _ w.heap.size 25 (itA i) from RF.out) Tryz.underlying25 rfl (by kernel_rfl)) rfl ?_
          exact LinePost.said i vl R.out BF.out rfl
end Go.Proofs.YtefdjdipbnnoaaaGreatDoor
