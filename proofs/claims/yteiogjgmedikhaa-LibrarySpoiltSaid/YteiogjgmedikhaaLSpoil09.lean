/-
  LibrarySpoilt.
-/
import Derived.Test.YteiogjgmedikhaaBuilt09
import Derived.Test.YteiogjgmedikhaaLCopy09
import Derived.Test.YteiogjgmedikhaaTapes09
namespace Go.Proofs.Yteiogjgmedikhaa
open Go Go.RowKit
set_option linter.unusedVariables false

/-! ### Plain -/
def cutL (L : List BlkL) (p q : Nat) : List BlkL := L.take p ++ L.drop q
def cutP (pl : Nat → Place) (p q : Nat) (i : Nat) : Place := if i < p then pl i else pl (q + (i - p))
theorem flat_add (f : Nat → List Value) (p : Nat) : ∀ m, flat f (p + m) = flat f p ++ flat (fun i => f (p + i)) m
  | 0 => by simp [flat]
  | m + 1 => by rw [← Nat.add_assoc, flat_succ, flat_add f p m, flat_succ, List.append_assoc]
theorem cutL_len {L : List BlkL} {p q : Nat} (hp : p ≤ L.length) : (cutL L p q).length = p + (L.length - q) := by
  unfold cutL; rw [List.length_append, List.length_take, List.length_drop, Nat.min_eq_left hp]
theorem cutL_at {L : List BlkL} {p q i : Nat} (hp : p ≤ L.length) : (cutL L p q)[i]? = if i < p then L[i]? else L[q + (i - p)]? := by
  unfold cutL
  split
  · rename_i h
    rw [List.getElem?_append_left (by rw [List.length_take]; omega), List.getElem?_take, if_pos h]
  · rename_i h
    rw [List.getElem?_append_right (by rw [List.length_take]; omega), List.length_take, Nat.min_eq_left hp, List.getElem?_drop]
theorem cut_flat {L : List BlkL} {pl : Nat → Place} {p q : Nat} (hp : p ≤ L.length) :
    flat (blksC L pl) p ++ flat (fun i => blksC L pl (q + i)) (L.length - q) = flat (blksC (cutL L p q) (cutP pl p q)) (cutL L p q).length := by
  rw [cutL_len hp, flat_add]
  congr 1
  · refine flat_congr fun i hi => ?_
    unfold blksC cutP
    rw [cutL_at hp, if_pos hi, if_pos hi]
  · refine flat_congr fun i hi => ?_
    unfold blksC cutP
    rw [cutL_at hp, if_neg (by omega), if_neg (by omega), Nat.add_sub_cancel_left]
/-- The cells of the blocks from q on. -/
theorem BlksAt.src {W : World} {L : List BlkL} {fb cap : Nat} {pl : Nat → Place} (h : BlksAt W L (some ⟨fb, 0, none⟩) cap pl) {q m : Nat} (hq : q + m ≤ L.length) :
    ∀ (j : Nat) (u : Value), (flat (fun i => blksC L pl (q + i)) m)[j]? = some u → W.cell? ((⟨fb, q * 11, none⟩ : Addr).add j) = some u := by
  intro j u hj
  obtain ⟨h1, h2, h3⟩ := flat_div (C := 11) (by decide) (fun i hi => blksC_len (by omega)) hj
  obtain ⟨_, b, o, e, _, hc⟩ := h.tab (q + j / 11) (by omega)
  injection e with e
  injection e with e1 e2
  subst e1 e2
  have := hc (j % 11) h2
  rw [Addr.add_mid, show q * 11 + j = 0 + (q + j / 11) * 11 + j % 11 by omega, this]
  exact h3
theorem src_one {L : List BlkL} {pl : Nat → Place} {q m : Nat} : ∀ u ∈ flat (fun i => blksC L pl (q + i)) m, u.oneCell' = true := by
  intro u hu
  unfold flat at hu
  obtain ⟨i, _, hi⟩ := List.mem_flatMap.1 hu
  exact blksC_one u hi
theorem BlksP.cut {W W' : World} {lo : Nat} {L : List BlkL} {a : Option Addr} {cap : Nat} {pl : Nat → Place} (h : BlksP (fun q => lo ≤ q) W L a cap pl) {p q : Nat} (hp : p ≤ L.length) (hb : Below W.heap.size W W') {base : Nat} {v : Value} (hlo : lo ≤ base)
    (hown : W'.ownsRow base 37 11 v (cutL L p q).length (flat (blksC L pl) p ++ flat (fun i => blksC L pl (q + i)) (L.length - q))) :
    ∃ a' c', v = .slice a' (cutL L p q).length c' ∧ BlksP (fun q => lo ≤ q) W' (cutL L p q) a' c' (cutP pl p q) := by
  rw [cut_flat hp] at hown
  obtain ⟨a', c', e, hrow, hcap⟩ := RowAt.of_own hown (fun i hi => blksC_len hi)
  refine ⟨a', c', e, hrow.imp fun g hg _ => by omega, fun i b hbi => ?_, hcap⟩
  rw [cutL_at hp] at hbi
  unfold cutP
  split at hbi
  · rename_i hi; rw [if_pos hi]; exact (h.blk _ _ hbi).keep fun g _ hg => hb.block g hg
  · rename_i hi; rw [if_neg hi]; exact (h.blk _ _ hbi).keep fun g _ hg => hb.block g hg
theorem wp_append_any {P : Program} {w : World} {o : Oper} {a : Act} {K : Act → World → Prop} {Q : Exit → Act → World → Prop} (s x : Operand) (t : TypeId)
    (ho : o.op = .call { callee := .builtin .append, args := #[s, x], argTypes := #[t, t] })
    (base : Nat) (e : TypeId) (z : Value) (size bytes : Nat) (ht : P.underlying t = some (.slice e)) (hi : (P.info? e).map (fun i => (i.zero, i.size, i.bytes)) = some (some z, size, bytes)) (hzs : z.cells.size = size) (hsz : 0 < size)
    (v : Value) (n : Nat) (xs : List Value) (hs : a.eval s = v) (hown : w.ownsRow base e size v n xs)
    (ad : Addr) (m c : Nat) (news : List Value) (hx : a.eval x = .slice (some ad) m c) (hl : news.length = m * size) (hnews : ∀ j u, news[j]? = some u → w.cell? (ad.add j) = some u) (h1 : ∀ u ∈ news, u.oneCell' = true)
    (h63 : n + m ≤ maxLen) (hbytes : (n + m) * bytes ≤ 140737488355328) (hbase : base ≤ w.heap.size)
    (h : ∀ v' w', w'.ownsRow base e size v' (n + m) (xs ++ news) → w.grownBy w' v.ownBlock → K (a.put o.dst v') w') : o.wp P a w K Q := by
  obtain ⟨i0, hi0, hz0, hz1, hz2⟩ := info_parts hi
  obtain ⟨v', w', hr, h2, h3, _, _⟩ := run_append_own_at (P := P) w base t o.type e i0 z size bytes ht hi0 hz0 hz1 hz2 hzs hsz v n xs hown ad m c news hl hnews h1 h63 hbytes hbase
  unfold Oper.wp execOp
  simp only [ho, resolve, invoke, builtin, Sem.run_bind, Sem.run_pure, Result.andThen_ok, List.map_toArray, List.map_cons, List.map_nil, hs, hx, hr]
  exact h v' w' h2 h3
/-- A block's number, label or kind is turned in memory. -/
theorem ExP.ne {p : Nat → Prop} {W : World} {x : Ex} {a : Option Addr} {cap : Nat} (h : ExP p W x a cap) {fb : Nat} {cs : Array Value} (hb : Blk W fb 37 cs) : ExP (fun q => p q ∧ q ≠ fb) W x a cap := by
  induction h with
  | mk k hn hc hm _ ih =>
    refine .mk k ?_ hc hm ih
    rcases hn with hn | ⟨b, o, cur, e, hp, hbb, hcl⟩
    · exact .inl hn
    · refine .inr ⟨b, o, cur, e, ⟨hp, fun e2 => ?_⟩, hbb, hcl⟩
      subst e2
      have := hbb.symm.trans hb
      injection this with this
      injection this with _ this
      revert this; decide
theorem WordsP.ne {p : Nat → Prop} {W : World} {ws : List WordL} {a : Option Addr} {cap : Nat} {k : Nat → Kid} (h : WordsP p W ws a cap k) {fb : Nat} {cs : Array Value} (hb : Blk W fb 37 cs) : WordsP (fun q => p q ∧ q ≠ fb) W ws a cap k := by
  refine ⟨?_, fun i x hx => (h.tree i x hx).ne hb, h.most⟩
  rcases h.row with h | ⟨b, e, hp, cur, hbb, hc⟩
  · exact .inl h
  · refine .inr ⟨b, e, ⟨hp, fun e2 => ?_⟩, cur, hbb, hc⟩
    subst e2
    have := hbb.symm.trans hb
    injection this with this
    injection this with _ this
    revert this; decide
theorem BlkP.ne {p : Nat → Prop} {W : World} {b : BlkL} {pl : Place} (h : BlkP p W b pl) {fb : Nat} {cs : Array Value} (hb : Blk W fb 37 cs) : BlkP (fun q => p q ∧ q ≠ fb) W b pl := ⟨h.words.ne hb, h.left.ne hb, h.x.ne hb⟩
theorem BlksP.turn {p : Nat → Prop} {W : World} {L : List BlkL} {fb cap : Nat} {pl : Nat → Place} (h : BlksP p W L (some ⟨fb, 0, none⟩) cap pl) {k : Nat} {b b' : BlkL} (hk : L[k]? = some b) {j : Nat} (hj : j < 11) {v : Value} (hc : blkC b' (pl k) = (blkC b (pl k)).set j v)
    (hw : b'.words = b.words) (hl : b'.left = b.left) (hx : b'.x = b.x) : BlksP p (W.setCell ⟨fb, k * 11 + j, none⟩ v) (L.set k b') (some ⟨fb, 0, none⟩) cap pl := by
  have hkl := (List.getElem?_eq_some_iff.1 hk).1
  obtain ⟨b0, e, hp, cur, hb, hcl⟩ := h.row.some (by omega)
  injection e with e
  injection e with e
  subst e
  have gr : ∀ q, q ≠ fb → (W.setCell ⟨fb, k * 11 + j, none⟩ v).heap[q]? = W.heap[q]? := fun q hq => Below.heap_setCell W ⟨fb, k * 11 + j, none⟩ v q hq
  refine ⟨.inr ⟨fb, rfl, hp, _, hb.put (k * 11 + j) v, fun i hi => ?_⟩, fun i y hy => ?_, by simpa using h.most⟩
  · rw [List.length_set] at hi
    refine ⟨blksC_len (by rw [List.length_set]; exact hi), fun j' hj' => ?_⟩
    have h0 := (hcl i hi).2 j' hj'
    have hsz : k * 11 + j < cur.size := by
      have h1 := (hcl k hkl).2 j hj
      have h2 : j < (blksC L pl k).length := by rw [blksC_len hkl]; exact hj
      rw [List.getElem?_eq_getElem h2] at h1
      exact (Array.getElem?_eq_some_iff.1 h1).1
    rw [Array.getElem?_setIfInBounds]
    by_cases e : i = k
    · subst e
      rw [blksC_at (b := b') (by rw [List.getElem?_set_self hi]), hc, List.getElem?_set]
      have hlen : (blkC b (pl i)).length = 11 := rfl
      by_cases e2 : j = j'
      · subst e2
        rw [if_pos rfl, if_pos hsz, if_pos rfl, if_pos (by omega)]
      · rw [if_neg (by omega), if_neg e2, h0, blksC_at hk]
    · rw [if_neg (by omega), h0]
      unfold blksC
      rw [List.getElem?_set_ne (Ne.symm e)]
  · have hy2 : ∃ y0, L[i]? = some y0 ∧ y.words = y0.words ∧ y.left = y0.left ∧ y.x = y0.x := by
      by_cases e : i = k
      · subst e
        rw [List.getElem?_set_self hkl] at hy
        injection hy with hy
        subst hy
        exact ⟨b, hk, hw, hl, hx⟩
      · rw [List.getElem?_set_ne (Ne.symm e)] at hy
        exact ⟨y, hy, rfl, rfl, rfl⟩
    obtain ⟨y0, h1, h2, h3, h4⟩ := hy2
    have h5 := (((h.blk i y0 h1).ne hb).keep (W' := W.setCell ⟨fb, k * 11 + j, none⟩ v) fun q hq _ => gr q hq.2).imp (q := p) fun q hq _ => hq.1
    exact ⟨by rw [h2]; exact h5.words, by rw [h3]; exact h5.left, by rw [h4]; exact h5.x⟩
set_option maxRecDepth 100000 in
set_option maxHeartbeats 4000000 in
theorem spoilt_walk (a0 : Option Addr) (len0 cap0 : Nat) (z0 : List Int) (a1 a2 a3 : Int) (w : World) (w0 : IsRow .i64 w a0 len0 cap0 z0) (w1 : (Lit.int .i64 a1).wf = true) (w2 : (Lit.int .i64 a2).wf = true) (w3 : (Lit.int .i64 a3).wf = true) :
    Calls Try.prog 4 #[.slice a0 len0 cap0, .int .i64 a1, .int .i64 a2, .int .i64 a3] w fun e w' => e = .returned (.bool true) ∧ Below w.heap.size w w' := by
  obtain ⟨T, hT⟩ : ∃ T : Tp, T = ⟨len0, fun i => z0.getD i 0⟩ := ⟨_, rfl⟩
  have HT := Lib.hid hT
  have hn33 := flow_len T
  have hpos := flow_pos T
  generalize hL : flowF T = L at *
  have HL := Lib.hid hL
  clear hL hT w1 w2 w3
  have KL := Lib.hid (light_any w a0 len0 cap0)
  have KA := Lib.hid awake_true
  have W0 := Lib.hid w0
  clear w0
  go_enter Try.func4, Try.ntmps4
  go_wp2_with fail
  refine KL.out.mono ?_
  rintro e w' ⟨rfl, rfl⟩
  by_cases hlen : 120 < len0
  · have dl : decide (len0 ≤ 120) = false := decide_eq_false (by omega)
    go_wp2_with fail
    refine (KA.out _).mono ?_
    rintro e w' ⟨rfl, b9⟩
    go_wp2_with fail
    go_ret
    exact ⟨rfl, b9⟩
  have dl : decide (len0 ≤ 120) = true := decide_eq_true (by omega)
  have BW := Lib.hid (Below.refl w.heap.size w)
  have HLEN := Lib.hid hlen
  clear hlen KL
  go_wp2_with fail
  refine (tape_new _ a0 len0 cap0 z0 (W0.out.below BW.out) (by have := HLEN.out; omega)).mono ?_
  rintro e u1 ⟨rfl, hs, b1⟩
  rw [← HT.out] at hs
  have bw := BW.out.size
  have HS1 := Lib.hid hs
  have HC1 := Lib.hid b1
  have HB1 := Lib.hid (belowMore BW.out b1)
  clear hs b1
  go_wp2_with fail
  refine (flow_any u1 _ _ _ _ _ HS1.out).mono ?_
  rintro e v2 ⟨fa, fc, fp, rfl, hbs, kx, ht⟩
  rw [HL.out] at hbs ⊢
  have FB := Lib.hid (hbs.imp (q := fun q => w.heap.size ≤ q) fun q hq hl => Nat.le_trans HB1.out.size hq)
  have B2 := Lib.hid (ht.below HB1.out bw)
  clear hbs ht HS1 HB1 HC1 bw
  have KM := Lib.hid (fun (v n : Int) (h : 1 ≤ n) (h' : n ≤ 1000) W => mod_any v n W h (by omega))
  go_wp2_with fail
  refine (KM.out a1 L.length (by omega) (by omega) _).mono ?_
  rintro e w' ⟨rfl, rfl⟩
  have k1 := Int.emod_nonneg a1 (show (L.length : Int) ≠ 0 by omega)
  have k2 := Int.emod_lt_of_pos a1 (show (0 : Int) < L.length by omega)
  generalize a1 % (L.length : Int) = kv at *
  obtain ⟨k, rfl⟩ : ∃ k : Nat, kv = k := ⟨kv.toNat, by omega⟩
  obtain ⟨fb, rfl, hfb, hot⟩ := FB.out.row.some hpos
  clear hfb hot
  go_wp2_with fail
  refine (KM.out a2 5 (by decide) (by decide) _).mono ?_
  rintro e w' ⟨rfl, rfl⟩
  have m1 := Int.emod_nonneg a2 (show (5 : Int) ≠ 0 by decide)
  have m2 := Int.emod_lt_of_pos a2 (show (0 : Int) < 5 by decide)
  generalize a2 % (5 : Int) = hv at *
  by_cases e0 : hv = 0
  · subst e0
    go_wp2_with fail
    refine region_L (fun W => True) [] (by kernel_rfl) ?_
    have hS0 : True := trivial
    refine take_P 1 (v := .slice (some ⟨fb, 0, none⟩) L.length fc) rfl (by kernel_rfl) (by kernel_rfl) (by kernel_rfl) (fun _ _ _ h => h) (by kernel_rfl) (fun W' => by go_simp) ?_
    refine take_P 2 (v := .int .i64 k) rfl (by kernel_rfl) (by kernel_rfl) (by kernel_rfl) (fun _ _ _ h => h) (by kernel_rfl) (fun W' => by go_simp) ?_
    have hcap := FB.out.most
    have c1 : ¬ fc < k := by omega
    have c2 : IntKind.i64.wrap ((k : Int) + 1) = (k : Int) + 1 := by rw [IntKind.wrap_i64]; omega
    have c3 : (0 : Int) ≤ (k : Int) + 1 := by omega
    have c4 : ¬ ((L.length : Int) < (k : Int) + 1) := by omega
    have c5 : ((k : Int) + 1).toNat = k + 1 := by omega
    have c6 : (fc - (k + 1) = 0) ↔ (fc = k + 1) := by omega
    refine take_P 3 (v := .slice (some ⟨fb, 0, none⟩) k fc) rfl (by kernel_rfl) (by kernel_rfl) (by kernel_rfl) (fun _ _ _ h => h) (by kernel_rfl) (fun W' => by go_simp) ?_
    refine take_P 5 (v := .slice (some ⟨fb, 0, none⟩) L.length fc) rfl (by kernel_rfl) (by kernel_rfl) (by kernel_rfl) (fun _ _ _ h => h) (by kernel_rfl) (fun W' => by go_simp) ?_
    refine take_P 6 (v := .int .i64 k) rfl (by kernel_rfl) (by kernel_rfl) (by kernel_rfl) (fun _ _ _ h => h) (by kernel_rfl) (fun W' => by go_simp) ?_
    refine take_P 7 (v := .int .i64 ((k : Int) + 1)) rfl (by kernel_rfl) (by kernel_rfl) (by kernel_rfl) (fun _ _ _ h => h) (by kernel_rfl) (fun W' => by go_simp) ?_
    obtain ⟨ad, had, had2⟩ : ∃ ad : Addr, (if fc = k + 1 then some (⟨fb, 0, none⟩ : Addr) else some ⟨fb, (k + 1) * 11, none⟩) = some ad ∧ (0 < L.length - (k + 1) → ad = ⟨fb, (k + 1) * 11, none⟩) := by
      by_cases h : fc = k + 1
      · exact ⟨_, if_pos h, fun h2 => by omega⟩
      · exact ⟨_, if_neg h, fun _ => rfl⟩
    refine take_P 8 (v := .slice (some ad) (L.length - (k + 1)) (fc - (k + 1))) rfl (by kernel_rfl) (by kernel_rfl) (by kernel_rfl) (fun _ _ _ h => h) (by kernel_rfl) (fun W' => by go_simp) ?_
    clear c1 c2 c3 c4 c5 c6
    refine one_L 0 (by kernel_rfl) rfl rfl fun K0 hK0 => ?_
    have HK0 := Lib.hid hK0
    clear hK0
    go_simp
    refine HK0.out _ _ (fun _ _ => trivial) ?_
    clear HK0
    refine on_told (K := fun a w => wpAnyL _ _ _ _ _ _ _ _ a w) (fun W => Below v2.heap.size v2 W ∧ W.ownsRow v2.heap.size 37 11 (.slice (some ⟨v2.heap.size, 0, none⟩) 0 0) 0 []) ⟨((Below.refl _ _).alloc (Nat.le_refl _) _).drew, (World.ownsRow_lit v2 #[] 0 (Nat.le_refl _) (by decide) rfl).drew⟩ ?_
    rintro W3 ⟨b3, o3⟩
    have s3 := (FB.out.at.under b3).src (q := 0) (m := k) (by omega)
    refine one_L 4 (by kernel_rfl) rfl rfl fun K4 hK4 => ?_
    have HK4 := Lib.hid hK4
    clear hK4
    refine wp_append_any (.tmp 32) (.tmp 35) 22 rfl v2.heap.size 37 (Value.agg #[.int .i64 0, .int .i64 0, .bool false, .slice none 0 0, .int .i64 0, .int .i64 0, .slice none 0 0, .int .i64 0, .int .i64 0, .slice none 0 0, .int .i64 0]) 11 136 Try.underlying22 infoBlock (by kernel_rfl) (by decide) (.slice (some ⟨v2.heap.size, 0, none⟩) 0 0) 0 [] (by with_unfolding_all rfl) o3 ⟨fb, 0, none⟩ (k) fc (flat (fun i => blksC L fp (0 + i)) (k)) (by with_unfolding_all rfl) (flat_len (C := 11) (fun i hi => blksC_len (by omega))) (by simpa using s3) src_one (by unfold maxLen; omega) (by omega) b3.size fun v4 W4 o4 g4 => ?_
    refine HK4.out _ _ (fun _ _ => trivial) ?_
    have b4 : Below v2.heap.size v2 W4 := b3.trans (below_of_grown g4 b3.size (fun q e => (o3.lt q e).1))
    have s4 := (FB.out.at.under b4).src (q := k + 1) (m := (L.length - (k + 1))) (by omega)
    refine one_L 9 (by kernel_rfl) rfl rfl fun K9 hK9 => ?_
    have HK9 := Lib.hid hK9
    clear hK9
    refine wp_append_any (.tmp 36) (.tmp 40) 22 rfl v2.heap.size 37 (Value.agg #[.int .i64 0, .int .i64 0, .bool false, .slice none 0 0, .int .i64 0, .int .i64 0, .slice none 0 0, .int .i64 0, .int .i64 0, .slice none 0 0, .int .i64 0]) 11 136 Try.underlying22 infoBlock (by kernel_rfl) (by decide) v4 (0 + (k)) ([] ++ flat (fun i => blksC L fp (0 + i)) (k)) (by with_unfolding_all rfl) o4 (ad) ((L.length - (k + 1))) ((fc - (k + 1))) (flat (fun i => blksC L fp (k + 1 + i)) ((L.length - (k + 1)))) (by with_unfolding_all rfl) (flat_len (C := 11) (fun i hi => blksC_len (by omega))) (fun j u hj => by
      have h0 : 0 < (L.length - (k + 1)) := by
        rcases Nat.eq_zero_or_pos ((L.length - (k + 1))) with h | h
        · rw [h] at hj; simp [flat] at hj
        · exact h
      rw [had2 h0]; exact s4 j u hj) src_one (by unfold maxLen; omega) (by omega) b4.size fun v5 W5 o5 g5 => ?_
    refine HK9.out _ _ (fun _ _ => trivial) ?_
    have b5 : Below v2.heap.size v2 W5 := b4.trans (below_of_grown g5 b4.size (fun q e => (o4.lt q e).1))
    refine take_P 10 (v := v5) rfl (by kernel_rfl) (by kernel_rfl) (by kernel_rfl) (fun _ _ _ h => h) (by kernel_rfl) (fun W' => by go_simp) ?_
    refine done_L (by kernel_rfl) ?_ _
    have e1' : (fun i => blksC L fp (0 + i)) = blksC L fp := by funext i; rw [Nat.zero_add]
    rw [List.nil_append, e1', show 0 + (k) + ((L.length - (k + 1))) = (cutL L (k) (k + 1)).length by rw [cutL_len (by omega), Nat.zero_add]] at o5
    obtain ⟨a', c', rfl, hcut⟩ := FB.out.cut (by omega) b5 B2.out.size o5
    have HC := Lib.hid hcut.at
    have HB5 := Lib.hid (belowMore B2.out b5)
    clear hcut o5 b5 b4 s4 s3 o4 o3 g4 g5 b3 had2 e1' HK4 HK9
    go_simp
    go_wp2_with fail
    refine (KA.out _).mono ?_
    rintro e X1 ⟨rfl, b9⟩
    have KB := Lib.hid (built_any _ _ _ _ X1 (HC.out.under b9))
    have BX := Lib.hid (belowMore HB5.out b9)
    clear b9
    go_wp2_with fail
    refine KB.out.mono ?_
    rintro e X2 ⟨rfl, b10⟩
    have BY := Lib.hid (belowMore BX.out b10)
    clear b10
    go_wp2_with fail
    go_ret
    exact ⟨rfl, BY.out⟩
  have f0 : (hv == 0) = false := by simpa using e0
  by_cases e1 : hv = 1
  · subst e1
    have hcap := FB.out.most
    go_wp2_with fail
    refine region_L (fun W => True) [] (by kernel_rfl) ?_
    have hS0 : True := trivial
    have c2 : IntKind.i64.wrap ((k : Int) + 1) = (k : Int) + 1 := by rw [IntKind.wrap_i64]; omega
    have c3 : (0 : Int) ≤ (k : Int) + 1 := by omega
    have c4 : ¬ ((fc : Int) < (k : Int) + 1) := by omega
    have c5 : ((k : Int) + 1).toNat = k + 1 := by omega
    have c6 : ¬ fc = k := by omega
    have c7 : ¬ L.length < k := by omega
    have c8 : ¬ (fc - k = 0) := by omega
    refine take_P 1 (v := .slice (some ⟨fb, 0, none⟩) L.length fc) rfl (by kernel_rfl) (by kernel_rfl) (by kernel_rfl) (fun _ _ _ h => h) (by kernel_rfl) (fun W' => by go_simp) ?_
    refine take_P 2 (v := .int .i64 k) rfl (by kernel_rfl) (by kernel_rfl) (by kernel_rfl) (fun _ _ _ h => h) (by kernel_rfl) (fun W' => by go_simp) ?_
    refine take_P 3 (v := .int .i64 ((k : Int) + 1)) rfl (by kernel_rfl) (by kernel_rfl) (by kernel_rfl) (fun _ _ _ h => h) (by kernel_rfl) (fun W' => by go_simp) ?_
    refine take_P 4 (v := .slice (some ⟨fb, 0, none⟩) (k + 1) fc) rfl (by kernel_rfl) (by kernel_rfl) (by kernel_rfl) (fun _ _ _ h => h) (by kernel_rfl) (fun W' => by go_simp) ?_
    refine take_P 6 (v := .slice (some ⟨fb, 0, none⟩) L.length fc) rfl (by kernel_rfl) (by kernel_rfl) (by kernel_rfl) (fun _ _ _ h => h) (by kernel_rfl) (fun W' => by go_simp) ?_
    refine take_P 7 (v := .int .i64 k) rfl (by kernel_rfl) (by kernel_rfl) (by kernel_rfl) (fun _ _ _ h => h) (by kernel_rfl) (fun W' => by go_simp) ?_
    refine take_P 8 (v := .slice (some ⟨fb, k * 11, none⟩) (L.length - k) (fc - k)) rfl (by kernel_rfl) (by kernel_rfl) (by kernel_rfl) (fun _ _ _ h => h) (by kernel_rfl) (fun W' => by go_simp) ?_
    have had2 : 0 < L.length - k → (⟨fb, k * 11, none⟩ : Addr) = ⟨fb, k * 11, none⟩ := fun _ => rfl
    clear c2 c3 c4 c5 c6 c7 c8
    refine one_L 0 (by kernel_rfl) rfl rfl fun K0 hK0 => ?_
    have HK0 := Lib.hid hK0
    clear hK0
    go_simp
    refine HK0.out _ _ (fun _ _ => trivial) ?_
    clear HK0
    refine on_told (K := fun a w => wpAnyL _ _ _ _ _ _ _ _ a w) (fun W => Below v2.heap.size v2 W ∧ W.ownsRow v2.heap.size 37 11 (.slice (some ⟨v2.heap.size, 0, none⟩) 0 0) 0 []) ⟨((Below.refl _ _).alloc (Nat.le_refl _) _).drew, (World.ownsRow_lit v2 #[] 0 (Nat.le_refl _) (by decide) rfl).drew⟩ ?_
    rintro W3 ⟨b3, o3⟩
    have s3 := (FB.out.at.under b3).src (q := 0) (m := k + 1) (by omega)
    refine one_L 5 (by kernel_rfl) rfl rfl fun K5 hK5 => ?_
    have HK5 := Lib.hid hK5
    clear hK5
    refine wp_append_any (.tmp 44) (.tmp 48) 22 rfl v2.heap.size 37 (Value.agg #[.int .i64 0, .int .i64 0, .bool false, .slice none 0 0, .int .i64 0, .int .i64 0, .slice none 0 0, .int .i64 0, .int .i64 0, .slice none 0 0, .int .i64 0]) 11 136 Try.underlying22 infoBlock (by kernel_rfl) (by decide) (.slice (some ⟨v2.heap.size, 0, none⟩) 0 0) 0 [] (by with_unfolding_all rfl) o3 ⟨fb, 0, none⟩ (k + 1) fc (flat (fun i => blksC L fp (0 + i)) (k + 1)) (by with_unfolding_all rfl) (flat_len (C := 11) (fun i hi => blksC_len (by omega))) (by simpa using s3) src_one (by unfold maxLen; omega) (by omega) b3.size fun v4 W4 o4 g4 => ?_
    refine HK5.out _ _ (fun _ _ => trivial) ?_
    have b4 : Below v2.heap.size v2 W4 := b3.trans (below_of_grown g4 b3.size (fun q e => (o3.lt q e).1))
    have s4 := (FB.out.at.under b4).src (q := k) (m := (L.length - k)) (by omega)
    refine one_L 9 (by kernel_rfl) rfl rfl fun K9 hK9 => ?_
    have HK9 := Lib.hid hK9
    clear hK9
    refine wp_append_any (.tmp 49) (.tmp 52) 22 rfl v2.heap.size 37 (Value.agg #[.int .i64 0, .int .i64 0, .bool false, .slice none 0 0, .int .i64 0, .int .i64 0, .slice none 0 0, .int .i64 0, .int .i64 0, .slice none 0 0, .int .i64 0]) 11 136 Try.underlying22 infoBlock (by kernel_rfl) (by decide) v4 (0 + (k + 1)) ([] ++ flat (fun i => blksC L fp (0 + i)) (k + 1)) (by with_unfolding_all rfl) o4 (⟨fb, k * 11, none⟩) ((L.length - k)) ((fc - k)) (flat (fun i => blksC L fp (k + i)) ((L.length - k))) (by with_unfolding_all rfl) (flat_len (C := 11) (fun i hi => blksC_len (by omega))) (fun j u hj => by
      have h0 : 0 < (L.length - k) := by
        rcases Nat.eq_zero_or_pos ((L.length - k)) with h | h
        · rw [h] at hj; simp [flat] at hj
        · exact h
      rw [had2 h0]; exact s4 j u hj) src_one (by unfold maxLen; omega) (by omega) b4.size fun v5 W5 o5 g5 => ?_
    refine HK9.out _ _ (fun _ _ => trivial) ?_
    have b5 : Below v2.heap.size v2 W5 := b4.trans (below_of_grown g5 b4.size (fun q e => (o4.lt q e).1))
    refine take_P 10 (v := v5) rfl (by kernel_rfl) (by kernel_rfl) (by kernel_rfl) (fun _ _ _ h => h) (by kernel_rfl) (fun W' => by go_simp) ?_
    refine done_L (by kernel_rfl) ?_ _
    have e1' : (fun i => blksC L fp (0 + i)) = blksC L fp := by funext i; rw [Nat.zero_add]
    rw [List.nil_append, e1', show 0 + (k + 1) + ((L.length - k)) = (cutL L (k + 1) (k)).length by rw [cutL_len (by omega), Nat.zero_add]] at o5
    obtain ⟨a', c', rfl, hcut⟩ := FB.out.cut (by omega) b5 B2.out.size o5
    have HC := Lib.hid hcut.at
    have HB5 := Lib.hid (belowMore B2.out b5)
    clear hcut o5 b5 b4 s4 s3 o4 o3 g4 g5 b3 had2 e1' HK5 HK9
    go_simp
    go_wp2_with fail
    refine (KA.out _).mono ?_
    rintro e X1 ⟨rfl, b9⟩
    have KB := Lib.hid (built_any _ _ _ _ X1 (HC.out.under b9))
    have BX := Lib.hid (belowMore HB5.out b9)
    clear b9
    go_wp2_with fail
    refine KB.out.mono ?_
    rintro e X2 ⟨rfl, b10⟩
    have BY := Lib.hid (belowMore BX.out b10)
    clear b10
    go_wp2_with fail
    go_ret
    exact ⟨rfl, BY.out⟩
  have f1 : (hv == 1) = false := by simpa using e1
  have KBK := Lib.hid (List.getElem?_eq_getElem (show k < L.length by omega))
  generalize L[k]'(by omega) = b at KBK
  have kb1 : (k : Int) < (L.length : Int) := k2
  by_cases e2 : hv = 2
  · subst e2
    go_wp2_with fail
    refine (KM.out a3 3 (by decide) (by decide) _).mono ?_
    rintro e w' ⟨rfl, rfl⟩
    obtain ⟨fb2, ef, hfp, cur, hbk, hcl⟩ := FB.out.row.some hpos
    injection ef with ef
    injection ef with ef
    subst ef
    have u0 : v2.cell? ⟨fb, k * 11 + 10, none⟩ = some (.int .i64 b.n) := by
      obtain ⟨_, fb', o', ef, hlt', hck⟩ := FB.out.at.tab k (by omega)
      injection ef with ef
      injection ef with ef1 ef2
      subst ef1 ef2
      have := hck 10 (by decide)
      rw [blksC_at KBK.out, Nat.zero_add] at this
      exact this
    have z0' := hbk.frozen (k * 11 + 10)
    have HT2 := Lib.hid (FB.out.turn KBK.out (j := 10) (by decide) (v := .int .i64 (1 + a3 % 3)) (b' := (⟨b.kind, b.label, b.skip, b.words, b.left, b.x, 1 + a3 % 3⟩ : BlkL)) rfl rfl rfl rfl).at
    have HB2 := Lib.hid (B2.out.setCell hfp (.int .i64 (1 + a3 % 3)) : Below w.heap.size w (v2.setCell ⟨fb, k * 11 + 10, none⟩ (.int .i64 (1 + a3 % 3))))
    clear hfp hbk hcl KM
    go_upto_region 15 with fail
    clear u0 z0'
    refine on_told (fun W => BlksAt W (L.set k (⟨b.kind, b.label, b.skip, b.words, b.left, b.x, 1 + a3 % 3⟩ : BlkL)) (some ⟨fb, 0, none⟩) fc fp ∧ Below w.heap.size w W) ⟨HT2.out, HB2.out⟩ ?_
    rintro W9 ⟨h9, b9⟩
    have HT9 := Lib.hid h9
    have HB9 := Lib.hid b9
    clear h9 b9 HT2 HB2
    go_wp2_with fail
    refine (KA.out _).mono ?_
    rintro e X1 ⟨rfl, b9⟩
    have KB := Lib.hid (by have h := built_any _ _ _ _ X1 (HT9.out.under b9); rw [List.length_set] at h; exact h)
    have BX := Lib.hid (belowMore HB9.out b9)
    clear b9
    go_wp2_with fail
    refine KB.out.mono ?_
    rintro e X2 ⟨rfl, b10⟩
    have BY := Lib.hid (belowMore BX.out b10)
    clear b10
    go_wp2_with fail
    go_ret
    exact ⟨rfl, BY.out⟩
  have f2 : (hv == 2) = false := by simpa using e2
  by_cases e3 : hv = 3
  · subst e3
    go_wp2_with fail
    refine (KM.out a3 12 (by decide) (by decide) _).mono ?_
    rintro e w' ⟨rfl, rfl⟩
    obtain ⟨fb2, ef, hfp, cur, hbk, hcl⟩ := FB.out.row.some hpos
    injection ef with ef
    injection ef with ef
    subst ef
    have u0 : v2.cell? ⟨fb, k * 11 + 1, none⟩ = some (.int .i64 b.label) := by
      obtain ⟨_, fb', o', ef, hlt', hck⟩ := FB.out.at.tab k (by omega)
      injection ef with ef
      injection ef with ef1 ef2
      subst ef1 ef2
      have := hck 1 (by decide)
      rw [blksC_at KBK.out, Nat.zero_add] at this
      exact this
    have z0' := hbk.frozen (k * 11 + 1)
    have HT2 := Lib.hid (FB.out.turn KBK.out (j := 1) (by decide) (v := .int .i64 (a3 % 12)) (b' := (⟨b.kind, a3 % 12, b.skip, b.words, b.left, b.x, b.n⟩ : BlkL)) rfl rfl rfl rfl).at
    have HB2 := Lib.hid (B2.out.setCell hfp (.int .i64 (a3 % 12)) : Below w.heap.size w (v2.setCell ⟨fb, k * 11 + 1, none⟩ (.int .i64 (a3 % 12))))
    clear hfp hbk hcl KM
    go_upto_region 15 with fail
    clear u0 z0'
    refine on_told (fun W => BlksAt W (L.set k (⟨b.kind, a3 % 12, b.skip, b.words, b.left, b.x, b.n⟩ : BlkL)) (some ⟨fb, 0, none⟩) fc fp ∧ Below w.heap.size w W) ⟨HT2.out, HB2.out⟩ ?_
    rintro W9 ⟨h9, b9⟩
    have HT9 := Lib.hid h9
    have HB9 := Lib.hid b9
    clear h9 b9 HT2 HB2
    go_wp2_with fail
    refine (KA.out _).mono ?_
    rintro e X1 ⟨rfl, b9⟩
    have KB := Lib.hid (by have h := built_any _ _ _ _ X1 (HT9.out.under b9); rw [List.length_set] at h; exact h)
    have BX := Lib.hid (belowMore HB9.out b9)
    clear b9
    go_wp2_with fail
    refine KB.out.mono ?_
    rintro e X2 ⟨rfl, b10⟩
    have BY := Lib.hid (belowMore BX.out b10)
    clear b10
    go_wp2_with fail
    go_ret
    exact ⟨rfl, BY.out⟩
  have f3 : (hv == 3) = false := by simpa using e3
  go_wp2_with fail
  refine (KM.out a3 7 (by decide) (by decide) _).mono ?_
  rintro e w' ⟨rfl, rfl⟩
  obtain ⟨fb2, ef, hfp, cur, hbk, hcl⟩ := FB.out.row.some hpos
  injection ef with ef
  injection ef with ef
  subst ef
  have u0 : v2.cell? ⟨fb, k * 11, none⟩ = some (.int .i64 b.kind) := by
    obtain ⟨_, fb', o', ef, hlt', hck⟩ := FB.out.at.tab k (by omega)
    injection ef with ef
    injection ef with ef1 ef2
    subst ef1 ef2
    have := hck 0 (by decide)
    rw [blksC_at KBK.out, Nat.zero_add] at this
    exact this
  have z0' := hbk.frozen (k * 11)
  have HT2 := Lib.hid (FB.out.turn KBK.out (j := 0) (by decide) (v := .int .i64 (a3 % 7)) (b' := (⟨a3 % 7, b.label, b.skip, b.words, b.left, b.x, b.n⟩ : BlkL)) rfl rfl rfl rfl).at
  have HB2 := Lib.hid (B2.out.setCell hfp (.int .i64 (a3 % 7)) : Below w.heap.size w (v2.setCell ⟨fb, k * 11 + 0, none⟩ (.int .i64 (a3 % 7))))
  clear hfp hbk hcl KM
  go_upto_region 15 with fail
  clear u0 z0'
  refine on_told (fun W => BlksAt W (L.set k (⟨a3 % 7, b.label, b.skip, b.words, b.left, b.x, b.n⟩ : BlkL)) (some ⟨fb, 0, none⟩) fc fp ∧ Below w.heap.size w W) ⟨HT2.out, HB2.out⟩ ?_
  rintro W9 ⟨h9, b9⟩
  have HT9 := Lib.hid h9
  have HB9 := Lib.hid b9
  clear h9 b9 HT2 HB2
  go_wp2_with fail
  refine (KA.out _).mono ?_
  rintro e X1 ⟨rfl, b9⟩
  have KB := Lib.hid (by have h := built_any _ _ _ _ X1 (HT9.out.under b9); rw [List.length_set] at h; exact h)
  have BX := Lib.hid (belowMore HB9.out b9)
  clear b9
  go_wp2_with fail
  refine KB.out.mono ?_
  rintro e X2 ⟨rfl, b10⟩
  have BY := Lib.hid (belowMore BX.out b10)
  clear b10
  go_wp2_with fail
  go_ret
  exact ⟨rfl, BY.out⟩
end Go.Proofs.Yteiogjgmedikhaa
