/-
  OutputJoined returns true. Its arguments: any.
-/
import Derived.Test.YtbagekkgmemfcaaFiredLaw
namespace Go.Proofs.Ytbagekkgmemfcaa
open Go Go.RowKit
set_option linter.unusedVariables false

/-! ### Plain laws -/
def acc (m : Nat → MarkV) : Nat → Int
  | 0 => 0
  | k + 1 => acc m k + (m k).pos % 4
theorem acc_bd (m : Nat → MarkV) : ∀ k : Nat, 0 ≤ acc m k ∧ acc m k ≤ 3 * k
  | 0 => by simp [acc]
  | k + 1 => by
    have h := acc_bd m k
    have e : acc m (k + 1) = acc m k + (m k).pos % 4 := rfl
    omega
theorem acc_mono (m : Nat → MarkV) (i j : Nat) (h : i ≤ j) : acc m i ≤ acc m j := by
  induction j with
  | zero => simp at h; subst h; omega
  | succ j ih =>
    by_cases e : i = j + 1
    · rw [e]; exact Int.le_refl _
    · have := ih (by omega); have h2 : acc m (j + 1) = acc m j + (m j).pos % 4 := rfl; omega
/-- The changed marks: k of them. -/
def joined (m : Nat → MarkV) (k i : Nat) : MarkV := if i < k then ⟨acc m (i + 1), 1 + (m i).kind % 6, (m i).item⟩ else m i
theorem fired_none {m : Nat → MarkV} {f t : Int} : ∀ n, (∀ i, i < n → (m i).pos ≤ f) → fired m f t n = []
  | 0, _ => rfl
  | n + 1, h => by rw [fired_out (by have := h n (by omega); omega), fired_none n fun i hi => h i (by omega)]
theorem fired_join {m : Nat → MarkV} {f t u : Int} (hft : f ≤ t) (htu : t ≤ u) : ∀ n, (∀ i j, i ≤ j → j < n → (m i).pos ≤ (m j).pos) → fired m f t n ++ fired m t u n = fired m f u n
  | 0, _ => rfl
  | n + 1, h => by
    have ih := fired_join hft htu n fun i j hij hj => h i j hij (by omega)
    by_cases hp : (m n).pos ≤ t
    · rw [fired_out (f := t) (t := u) (by omega)]
      have h0 : fired m t u n = [] := fired_none n fun i hi => by have := h i n (by omega) (by omega); omega
      rw [h0, List.append_nil] at ih ⊢
      by_cases hc : (m n).kind = 5 ∧ f < (m n).pos
      · rw [fired_in ⟨hc.1, hc.2, hp⟩, fired_in ⟨hc.1, hc.2, by omega⟩, ih]
      · rw [fired_out (by omega), fired_out (by omega), ih]
    · rw [fired_out (f := f) (t := t) (by omega)]
      by_cases hc : (m n).kind = 5 ∧ (m n).pos ≤ u
      · rw [fired_in (f := t) ⟨hc.1, by omega, hc.2⟩, fired_in (f := f) ⟨hc.1, by omega, hc.2⟩, ← List.append_assoc, ih]
      · rw [fired_out (by omega), fired_out (by omega), ih]
theorem joined_sorted (m : Nat → MarkV) (n i j : Nat) (hij : i ≤ j) (hj : j < n) : (joined m n i).pos ≤ (joined m n j).pos := by
  unfold joined
  rw [if_pos (by omega), if_pos hj]
  exact acc_mono m _ _ (by omega)
theorem fired_self (m : Nat → MarkV) (f : Int) : ∀ n, fired m f f n = []
  | 0 => rfl
  | n + 1 => by rw [fired_out (by omega), fired_self m f n]
theorem own_join {m : Nat → MarkV} {f t u : Int} {n B T : Nat} {v : Value} {w : World} (hft : f ≤ t) (htu : t ≤ u) (h : ∀ i j, i ≤ j → j < n → (m i).pos ≤ (m j).pos)
    (ho : w.ownsRow B T 1 v ((fired m f t n).length + (fired m t u n).length) ((fired m f t n).map (Value.int .i64) ++ (fired m t u n).map (Value.int .i64))) : w.ownsRow B T 1 v (fired m f u n).length ((fired m f u n).map (Value.int .i64)) := by
  rw [← fired_join hft htu n h]; simpa using ho
theorem OwnTab.grown {w w' : World} {g : Nat} {T : TypeId} {C n : Nat} {f : Nat → List Value} {row : Option Nat} (h : OwnTab w g T C n f) (hg : w.grownBy w' row) (hr : some g ≠ row) : OwnTab w' g T C n f := by
  obtain ⟨cur, hb, hc⟩ := h
  exact ⟨cur, hb.grown hg hr, hc⟩
theorem OwnTab.ne_own {w : World} {g : Nat} {T : TypeId} {C n : Nat} {f : Nat → List Value} (h : OwnTab w g T C n f) {base e size k : Nat} {v : Value} {xs : List Value} (ho : w.ownsRow base e size v k xs) (hne : e ≠ T) : some g ≠ v.ownBlock := by
  obtain ⟨cur, hb, _⟩ := h
  exact own_ne ho hb hne
/-- The numbers of a slice that came in, as append reads them. -/
theorem IsRow.reads {w : World} {a : Option Addr} {n c : Nat} {z : List Int} (h : IsRow .i64 w a n c z) : (a = none → n = 0 ∧ c = 0) ∧ n ≤ z.length ∧ ∀ ad, a = some ad → ∀ j u, ((z.take n).map (Value.int .i64))[j]? = some u → w.cell? (ad.add j) = some u := by
  rcases h with ⟨rfl, rfl, rfl, rfl⟩ | ⟨x, rfl, hl, _, hz, hc, _⟩
  · exact ⟨fun _ => ⟨rfl, rfl⟩, by simp, fun ad e => by cases e⟩
  · refine ⟨(by intro h; cases h), by omega, fun ad e j u hj => ?_⟩
    injection e with e
    subst e
    have hjn : j < n := by
      have := (List.getElem?_eq_some_iff.1 hj).1
      simp at this; omega
    rw [hc j (by omega), ← hj]
    simp [hjn, show j < z.length by omega]
theorem grown_of_below {w w' : World} (h : Below w.heap.size w w') : w.grownBy w' none := ⟨h.os, h.tape, h.output, h.size, fun i hi _ => h.block i hi⟩
/-- What is the call's own, as append reads it. -/
theorem own_reads {w : World} {base e n c : Nat} {a : Option Addr} {xs : List Value} (h : w.ownsRow base e 1 (.slice a n c) n xs) : (a = none → n = 0 ∧ c = 0) ∧ ∀ ad, a = some ad → ∀ j u, xs[j]? = some u → w.cell? (ad.add j) = some u := by
  rcases h.2 with ⟨hv, _⟩ | ⟨g, cap, cur, hv, _⟩
  · injection hv with h1 h2 h3
    exact ⟨fun _ => ⟨h2, h3⟩, fun ad e => by rw [h1] at e; cases e⟩
  · injection hv with h1 h2 h3
    refine ⟨(fun e => by rw [h1] at e; cases e), fun ad e => ?_⟩
    rw [h1] at e
    injection e with e
    subst e
    exact h.cells (g := g) (by rw [h1]; rfl)

set_option maxRecDepth 100000 in
set_option maxHeartbeats 2000000 in
theorem joined_walk (a0 : Option Addr) (len0 cap0 : Nat) (a1 : Option Addr) (len1 cap1 : Nat) (z1 : List Int) (w : World) (h0 : Leaf w (.tab markKs) (.slice a0 len0 cap0)) (h1 : IsRow .i64 w a1 len1 cap1 z1) :
    Calls Try.prog 6 #[.slice a0 len0 cap0, .slice a1 len1 cap1] w fun e w' => e = .returned (.bool true) ∧ Below w.heap.size w w' := by
  obtain ⟨m, ht, hmax, hnil⟩ := marks_in h0
  obtain ⟨i0, hi, hz0, hz1, hz2⟩ := info_parts infoMark
  obtain ⟨i1, hi1, hy0, hy1, hy2⟩ := info_parts infoInt
  clear h0
  go_enter Try.func6, Try.ntmps6
  go_wp2_with fail
  refine (awake_true _).mono ?_
  rintro e wa ⟨rfl, bel⟩
  have hmost := h1.most
  by_cases hn : len0 ≤ 60
  · have d60 : decide ((60 : Int) < (len0 : Int)) = false := by simp; omega
    by_cases hn1 : len1 ≤ 20
    · have d20 : decide ((20 : Int) < (len1 : Int)) = false := by simp; omega
      have ht1 := ht.below bel
      have hsz := bel.size
      go_wp2_with (at_builtin; refine wpList_append_tab rfl (.tmp 23) (.tmp 24) 34 rfl w.heap.size 36 i0 (.agg #[.int .i64 0, .int .i64 0, .int .i64 0]) 3 24 Try.underlying34 hi hz0 hz1 hz2 rfl (by decide) (.slice (some ⟨wa.heap.size, 0, none⟩) 0 0) 0 [] rfl (World.ownsRow_made wa #[] 0 hsz (by unfold maxLen; omega) rfl) a0 len0 cap0 (flat (fun i => mcell (m i)) len0) rfl hnil (flat_len fun i hi => rfl) (fun ad e => by subst e; exact (ht1.below ((Below.refl _ _).alloc (Nat.le_refl _) _)).cells (by omega)) (by intro u hu; obtain ⟨i, _, hu⟩ := flat_mem hu; simp [mcell] at hu; rcases hu with rfl | rfl | rfl <;> rfl) (by unfold maxLen; omega) (by omega) (by simp; omega) ?_)
      intro v' w1 own' hgrow hne
      rcases OwnTab.of_own own' (fun i hi => rfl) with ⟨rfl, _⟩ | ⟨g, cap, rfl, hg, ot⟩
      · exact absurd rfl hne
      have bel1 := (bel.alloc hsz (.cells #[] 36)).trans (below_of_grown hgrow (by simp; omega) (fun j hj => by simp [Value.ownBlock] at hj; omega))
      clear own' hgrow hne
      go_wp2_with fail
      go_loopw [6, 28] (fun v6 v28 wr => ∃ k : Nat, k ≤ len0 ∧ v28 = .int .i64 k ∧ v6 = .int .i64 (acc m k) ∧ OwnTab wr g 36 3 len0 (fun i => mcell (joined m k i)) ∧ Below w.heap.size w wr)
        (fun _ v28 _ => len0 - (intOf v28).toNat)
      case atStart => exact ⟨0, by omega, rfl, rfl, ot.congr (fun i hi => by simp [joined]), bel1⟩
      case round =>
        obtain ⟨k, hk, rfl, rfl, otr, belr⟩ := hrel
        by_cases hlt : k < len0
        · have e0 := otr.cell (j := 0) hlt (by omega)
          have e1 := otr.cell (j := 1) hlt (by omega)
          have f0 := otr.frozen (k * 3)
          have f1 := otr.frozen (k * 3 + 1)
          have hj : joined m k k = m k := by simp [joined]
          simp only [hj, mcell] at e0 e1
          simp at e0 e1
          have ib1 : (0 : Int) ≤ (k : Int) := by omega
          have ib2 : (k : Int) < (len0 : Int) := by omega
          have hacc : acc m (k + 1) = acc m k + (m k).pos % 4 := rfl
          have hb := acc_bd m k
          obtain ⟨hb0, hb1⟩ := hb
          have hnext : ∀ i, mcell (joined m (k + 1) i) = if i = k then [.int .i64 (acc m k + (m k).pos % 4), .int .i64 (1 + (m k).kind % 6), .int .i64 (m k).item] else mcell (joined m k i) := by
            intro i
            by_cases e : i = k
            · subst e; simp [joined, mcell, hacc]
            · simp [e, joined, show (i < k + 1) = (i < k) by simp; omega]
          have HN := Lib.hid hnext
          have HA := Lib.hid hacc
          clear hnext hacc
          generalize hp : (m k).pos = p at *
          generalize hq : (m k).kind = q at *
          generalize hA : acc m k = A at *
          obtain ⟨d, hd⟩ : ∃ d, q % 6 = d := ⟨_, rfl⟩
          obtain ⟨p', hp'⟩ : ∃ p', p % 4 = p' := ⟨_, rfl⟩
          go_wp2_with (go_at_call 8; refine (mod_any _ _ _ (by omega) (by omega)).mono ?_; rintro e w' ⟨rfl, rfl⟩; first | rw [hd] | rw [hp'])
          go_roundw
          case rel =>
            refine ⟨k + 1, hlt, by go_num, by rw [HA.out, hp'], OwnTab.congr ((otr.put (j := 0) hlt (by omega) (.int .i64 (A + p'))).put (j := 1) hlt (by omega) (.int .i64 (1 + d))) ?_, (belr.setCell (by simp; omega) _).setCell (by simp; omega) _⟩
            intro i hi
            rw [HN.out i]
            by_cases e : i = k
            · subst e
              simp [mcell, hj, hp, hq, hd, hp']
            · simp [e]
          case measure => simp [intOf]; omega
        · obtain rfl : k = len0 := by omega
          have hszr := belr.size
          have hrow := h1.below belr
          obtain ⟨r0, r1, r2⟩ := hrow.reads
          have r3 : ∀ ad, a1 = some ad → ∀ j u, ((z1.take len1).map (Value.int .i64))[j]? = some u → (wr.alloc (.cells #[] 3)).cell? (ad.add j) = some u := fun ad e j u hj => World.cell?_alloc_lt _ _ _ (block_lt_of_cell (r2 ad e j u hj)) ▸ r2 ad e j u hj
          have og : some g ≠ some wr.heap.size := by have := otr.lt; simp; omega
          have R3 := Lib.hid r3
          have R0 := Lib.hid r0
          clear r2 r3 r0 hrow ot bel1
          go_wp2_with (first
            | (at_builtin; refine wpList_append_tab rfl (.tmp 56) (.tmp 57) 38 rfl w.heap.size 3 i1 (.int .i64 0) 1 8 Try.underlying38 hi1 hy0 hy1 hy2 rfl (by decide) (.slice (some ⟨wr.heap.size, 0, none⟩) 0 0) 0 [] rfl (World.ownsRow_made wr #[] 0 hszr (by unfold maxLen; omega) rfl) a1 len1 cap1 ((z1.take len1).map (Value.int .i64)) rfl R0.out (by simp; omega) R3.out (by intro u hu; obtain ⟨x, _, rfl⟩ := List.mem_map.1 hu; rfl) (by unfold maxLen; omega) (by omega) (by simp; omega) ?_; intro v' wA ownA hgrA _; rw [Nat.zero_add, List.nil_append] at ownA)
            | (at_builtin; refine wpList_append_tab rfl (.tmp 58) (.tmp 59) 38 rfl w.heap.size 3 i1 (.int .i64 0) 1 8 Try.underlying38 hi1 hy0 hy1 hy2 rfl (by decide) v' len1 ((z1.take len1).map (Value.int .i64)) rfl (ownA.alloc _) (some ⟨wA.heap.size, 0, none⟩) 1 1 [.int .i64 0] rfl (by simp) rfl (fun ad e => by cases e; exact cell_one_new _ _ _) (by intro u hu; simp at hu; subst hu; rfl) (by unfold maxLen; omega) (by omega) (by have := hgrA.size; simp at this ⊢; omega) ?_))
          intro v2 wB ownB hgrB _
          have ownB' : wB.ownsRow w.heap.size 3 1 v2 (len1 + 1) ((z1.take len1 ++ [0]).map (Value.int .i64)) := by simpa [List.map_take] using ownB
          obtain ⟨x2, c2, rfl⟩ := own_form ownB'
          have IB := IntsAt.own ownB'
          have hszA := hgrA.size
          have hszB := hgrB.size
          simp at hszA hszB
          have oA : OwnTab wA g 36 3 k (fun i => mcell (joined m k i)) := (otr.alloc _).grown hgrA og
          have oB : OwnTab wB g 36 3 k (fun i => mcell (joined m k i)) := (oA.alloc _).grown hgrB (oA.ne_own ownA (by decide))
          have belA := (belr.alloc hszr (.cells #[] 3)).trans (below_of_grown hgrA (by simp; omega) (fun j hj => by simp [Value.ownBlock] at hj; omega))
          have belB := (belA.alloc (by omega) (.cells #[.int .i64 0] 3)).trans (below_of_grown hgrB (by simp; omega) (fun j hj => (ownA.lt j hj).1))
          have hszw := belB.size
          generalize z1.take len1 ++ [0] = zl at IB
          clear ownB ownB' hgrA hgrB ownA oA belA otr belr R3 R0 og h1
          have MB := marks_of_tab oB.tab
          have hsort := joined_sorted m k
          generalize hM : joined m k = M at *
          have own0 : wB.ownsRow wB.heap.size 3 1 (.slice none 0 0) (fired M (-1) (-1) k).length ((fired M (-1) (-1) k).map (Value.int .i64)) := by rw [fired_self]; exact World.ownsRow_nil _ _ _ _
          go_wp2_with fail
          go_loopw [8, 9, 62] (fun v8 v9 v62 wr => ∃ (j : Nat) (fr : Int), j ≤ len1 + 1 ∧ v62 = .int .i64 j ∧ v9 = .int .i64 fr ∧ -1 ≤ fr ∧ fr ≤ -1 + 8 * j ∧ wr.ownsRow wB.heap.size 3 1 v8 (fired M (-1) fr k).length ((fired M (-1) fr k).map (Value.int .i64)) ∧ Below wB.heap.size wB wr)
            (fun _ _ v62 _ => len1 + 1 - (intOf v62).toNat)
          case atStart => exact ⟨0, -1, by omega, rfl, rfl, by omega, by omega, own0, Below.refl _ _⟩
          case round =>
            obtain ⟨j, fr, hj, rfl, rfl, fr0, fr1, hown, belj⟩ := hrel
            have Mj := MB.below belj
            have hszj := belj.size
            have hlF := fired_len M (-1) fr k
            by_cases hlj : j < len1 + 1
            · obtain ⟨b, o, rfl, hbl, hc⟩ := IB j hlj
              have e0 : wr.cell? ⟨b, o + j, none⟩ = some (.int .i64 (zl.getD j 0)) := (belj.cell hbl).trans hc
              clear hc
              generalize zl.getD j 0 = zj at e0
              obtain ⟨d, hd⟩ : ∃ d, zj % 9 = d := ⟨_, rfl⟩
              have hd0 : 0 ≤ d ∧ d < 9 := by omega
              obtain ⟨hd0, hd1⟩ := hd0
              have hlG := fired_len M fr (fr + d) k
              have jn := fun v (w1 : World) => @own_join M (-1) fr (fr + d) k wB.heap.size 3 v w1 (by omega) (by omega) hsort
              have JN := Lib.hid jn
              clear jn
              have ib1 : (0 : Int) ≤ (j : Int) := by omega
              have ib2 : (j : Int) < (len1 : Int) + 1 := by omega
              have ib3 : j < len1 + 1 := by omega
              go_wp2_with (go_at_call 8; refine (mod_any _ _ _ (by omega) (by omega)).mono ?_; rintro e w' ⟨rfl, rfl⟩; rw [hd])
              refine (fired_any (some ⟨g, 0, none⟩) k cap M fr (fr + d) _ Mj hn).mono ?_
              rintro e wF ⟨v1, rfl, own1, belF⟩
              obtain ⟨x1, c1, rfl⟩ := own_form own1
              obtain ⟨q0, q1⟩ := own_reads own1
              have ownF := own_grown hown (grown_of_below belF) (by simp)
              have belF' := belj.trans (belF.mono hszj)
              have hszF := belF'.size
              have Q0 := Lib.hid q0
              have Q1 := Lib.hid q1
              clear own1 q0 q1
              generalize hG : (fired M fr (fr + d) k) = G at *
              generalize hF : (fired M (-1) fr k) = F at *
              go_wp2_with (at_builtin; refine wpList_append_tab rfl (.tmp 70) (.tmp 74) 38 rfl wB.heap.size 3 i1 (.int .i64 0) 1 8 Try.underlying38 hi1 hy0 hy1 hy2 rfl (by decide) _ F.length (F.map (Value.int .i64)) rfl ownF x1 G.length c1 (G.map (Value.int .i64)) rfl Q0.out (by simp) Q1.out (by intro u hu; obtain ⟨x, _, rfl⟩ := List.mem_map.1 hu; rfl) (by unfold maxLen; omega) (by omega) hszF ?_)
              intro v' wG ownG hgrG _
              have own2 := JN.out v' wG ownG
              have bel2 := belF'.trans (below_of_grown hgrG hszF (fun i hi => (ownF.lt i hi).1))
              clear ownG hgrG ownF belF' belF hown belj
              go_wp2_with fail
              go_roundw
              case rel => exact ⟨j + 1, fr + d, by omega, by go_num, rfl, by omega, by omega, own2, bel2⟩
              case measure => simp [intOf]; omega
            · obtain ⟨x8, c8, rfl⟩ := own_form hown
              have I8 := IntsAt.own hown
              go_wp2_with fail
              refine (fired_any (some ⟨g, 0, none⟩) k cap M (-1) fr _ Mj hn).mono ?_
              rintro e wF ⟨v1, rfl, own1, belF⟩
              obtain ⟨x1, c1, rfl⟩ := own_form own1
              have I1 := IntsAt.own own1
              have J8 := I8.below belF
              have belF' := belj.trans (belF.mono hszj)
              clear own1 I8
              go_wp2_with fail
              refine (same_any x8 x1 _ c8 c1 _ _ J8 I1 (by omega)).mono ?_
              rintro e wC ⟨rfl, q1, rfl⟩
              go_wp2_with fail
              go_ret
              exact ⟨rfl, below_drewN (belB.trans (belF'.mono hszw)) q1⟩
    · go_wp2_with fail
      go_ret
      exact ⟨rfl, bel⟩
  · go_wp2_with fail
    go_ret
    exact ⟨rfl, bel⟩
end Go.Proofs.Ytbagekkgmemfcaa
