/-
  EventAt returns true. Its arguments: any.
-/
import Derived.Test.YtkafmpgihhnhdaaDoorAwake33
import Derived.Test.YtkafmpgihhnhdaaDoorSame33
import Derived.Test.YtkafmpgihhnhdaaDoorEvents33
namespace Go.Proofs.YtkafmpgihhnhdaaDoor
open Go Go.RowKit
set_option linter.unusedVariables false

/-- How many events lie ahead of or at a cycle. -/
def leN (l : List Ev) (c : Int) : Nat := (l.filter fun e => decide (e.cy ≤ c)).length
theorem leN_step (c d : Int) (h : c < d) : ∀ (l : List Ev), (∀ y ∈ l, y.cy ≤ c ∨ d ≤ y.cy) → leN l d = leN l c + (atL l d).length
  | [], _ => rfl
  | x :: l, hy => by
    have ih := leN_step c d h l fun y hm => hy y (List.mem_cons_of_mem _ hm)
    have h0 := hy x List.mem_cons_self
    unfold leN atL at ih ⊢
    by_cases h1 : x.cy ≤ c
    · have e1 : decide (x.cy ≤ c) = true := decide_eq_true h1
      have e2 : decide (x.cy ≤ d) = true := decide_eq_true (by omega)
      have e3 : (x.cy == d) = false := beq_eq_false_iff_ne.2 (by omega)
      simp only [List.filter_cons, e1, e2, e3, if_true, if_false, List.length_cons, Bool.false_eq_true]
      omega
    · have e1 : decide (x.cy ≤ c) = false := decide_eq_false h1
      by_cases h2 : x.cy = d
      · have e2 : decide (x.cy ≤ d) = true := decide_eq_true (by omega)
        have e3 : (x.cy == d) = true := beq_iff_eq.2 h2
        simp only [List.filter_cons, e1, e2, e3, if_true, if_false, List.length_cons, Bool.false_eq_true]
        omega
      · have e2 : decide (x.cy ≤ d) = false := decide_eq_false (by omega)
        have e3 : (x.cy == d) = false := beq_eq_false_iff_ne.2 h2
        simp only [List.filter_cons, e1, e2, e3, if_false, Bool.false_eq_true]
        exact ih
theorem leN_none (c : Int) : ∀ (l : List Ev), (∀ y ∈ l, c < y.cy) → leN l c = 0
  | [], _ => rfl
  | x :: l, hy => by
    have h0 := hy x List.mem_cons_self
    have e1 : decide (x.cy ≤ c) = false := decide_eq_false (by omega)
    unfold leN
    simp only [List.filter_cons, e1, if_false, Bool.false_eq_true]
    exact leN_none c l fun y hm => hy y (List.mem_cons_of_mem _ hm)
theorem leN_all (c : Int) : ∀ (l : List Ev), (∀ y ∈ l, y.cy ≤ c) → leN l c = l.length
  | [], _ => rfl
  | x :: l, hy => by
    have h0 := hy x List.mem_cons_self
    have e1 : decide (x.cy ≤ c) = true := decide_eq_true h0
    have ih := leN_all c l fun y hm => hy y (List.mem_cons_of_mem _ hm)
    unfold leN at ih ⊢
    simp only [List.filter_cons, e1, if_true, List.length_cons, ih]
theorem leN_len (l : List Ev) (c : Int) : leN l c ≤ l.length := List.length_filter_le _ _
theorem validG_asc : ∀ {l : List Ev} {last : Int}, validG l last = true → (∀ y ∈ l, last ≤ y.cy) ∧ List.Pairwise (fun a b => a.cy ≤ b.cy) l
  | [], _, _ => ⟨by simp, List.Pairwise.nil⟩
  | x :: l, last, h => by
    rw [validG, Bool.and_eq_true] at h
    have hx : _ ∧ _ := of_decide_eq_true h.1
    obtain ⟨h1, h2⟩ := validG_asc h.2
    refine ⟨fun y hy => ?_, List.Pairwise.cons h1 h2⟩
    rcases List.mem_cons.1 hy with rfl | hy
    · omega
    · have := h1 y hy; omega
/-- The cycle of the event ahead of the k-th one. -/
def lastC (l : List Ev) : Nat → Int
  | 0 => -1
  | k + 1 => (l[k]?.map Ev.cy).getD (-1)
theorem lastC_step {l : List Ev} (h : validE l = true) {k : Nat} {x : Ev} (hx : l[k]? = some x) (hne : x.cy ≠ lastC l k) : leN l x.cy = leN l (lastC l k) + (atL l x.cy).length := by
  have hv : validG l 0 = true := by unfold validE at h; rw [Bool.and_eq_true] at h; exact h.2
  obtain ⟨h0, hp⟩ := validG_asc hv
  obtain ⟨hl, rfl⟩ := List.getElem?_eq_some_iff.1 hx
  rw [List.pairwise_iff_getElem] at hp
  cases k with
  | zero =>
    have hxx := h0 _ (List.getElem_mem hl)
    refine leN_step _ _ (by show (-1 : Int) < _; omega) l fun y hy => .inr ?_
    obtain ⟨j, hj, rfl⟩ := List.mem_iff_getElem.1 hy
    rcases Nat.eq_zero_or_pos j with rfl | hj0
    · exact Int.le_refl _
    · exact hp 0 j hl hj hj0
  | succ k =>
    have e : lastC l (k + 1) = (l[k]'(by omega)).cy := by show (l[k]?.map Ev.cy).getD (-1) = _; rw [List.getElem?_eq_getElem (by omega)]; rfl
    rw [e] at hne ⊢
    have hle := hp k (k + 1) (by omega) hl (by omega)
    refine leN_step _ _ (by omega) l fun y hy => ?_
    obtain ⟨j, hj, rfl⟩ := List.mem_iff_getElem.1 hy
    rcases Nat.lt_or_ge j (k + 1) with h1 | h1
    · left
      rcases Nat.lt_or_ge j k with h2 | h2
      · exact hp j k hj (by omega) h2
      · obtain rfl : j = k := by omega
        exact Int.le_refl _
    · right
      rcases Nat.lt_or_ge (k + 1) j with h2 | h2
      · exact hp (k + 1) j hl hj h2
      · obtain rfl : j = k + 1 := by omega
        exact Int.le_refl _
theorem lastC_next {l : List Ev} {k : Nat} {x : Ev} (hx : l[k]? = some x) : lastC l (k + 1) = x.cy := by show (l[k]?.map Ev.cy).getD (-1) = _; rw [hx]; rfl
theorem lastC_zero {l : List Ev} (h : validE l = true) : leN l (-1) = 0 := by
  refine leN_none _ l fun y hy => ?_
  have := (validE_all h y hy).1
  omega
theorem lastC_end {l : List Ev} (h : validE l = true) : leN l (lastC l l.length) = l.length := by
  have hv : validG l 0 = true := by unfold validE at h; rw [Bool.and_eq_true] at h; exact h.2
  obtain ⟨h0, hp⟩ := validG_asc hv
  rw [List.pairwise_iff_getElem] at hp
  refine leN_all _ l fun y hy => ?_
  obtain ⟨j, hj, rfl⟩ := List.mem_iff_getElem.1 hy
  obtain ⟨m, hm⟩ : ∃ m, l.length = m + 1 := ⟨l.length - 1, by omega⟩
  rw [hm]
  have e : lastC l (m + 1) = (l[m]'(by omega)).cy := by show (l[m]?.map Ev.cy).getD (-1) = _; rw [List.getElem?_eq_getElem (by omega)]; rfl
  rw [e]
  rcases Nat.lt_or_ge j m with h2 | h2
  · exact hp j m hj (by omega) h2
  · obtain rfl : j = m := by omega
    exact Int.le_refl _
set_option maxRecDepth 100000 in
set_option maxHeartbeats 2000000 in
theorem lat_walk (a0 : Option Addr) (len0 cap0 : Nat) (z0 : List Int) (cyc : Int) (w : World) (hE : Env w) (hr : IsRow .i64 w a0 len0 cap0 z0) : Calls Tryd.prog 8 #[.slice a0 len0 cap0, .int .i64 cyc] w fun e w' => e = .returned (.bool true) ∧ Below w.heap.size w w' := by
  have KA := Lib.hid (awake_true w hE)
  have HE := Lib.hid hE
  have HR := Lib.hid hr
  have hlow := hE.low
  clear hE hr
  by_cases h5 : 100 < len0
  · have d1 : decide (100 < len0) = true := by simpa using h5
    have d1' : decide (100 < (len0 : Int)) = true := decide_eq_true (by omega)
    go_enter Tryd.func8, Tryd.ntmps8
    go_wp2_with fail
    refine KA.out.mono ?_
    rintro e w1 ⟨rfl, b1⟩
    go_wp2_with fail
    go_ret
    exact ⟨rfl, b1⟩
  · have d1 : decide (100 < len0) = false := by simpa using h5
    have d1' : decide (100 < (len0 : Int)) = false := decide_eq_false (by omega)
    go_enter Tryd.func8, Tryd.ntmps8
    go_wp2_with fail
    refine KA.out.mono ?_
    rintro e w1 ⟨rfl, b1⟩
    have KV := Lib.hid (events_any w1 a0 len0 cap0 z0 (HR.out.below b1) (by omega))
    have BEL1 := Lib.hid b1
    have sz1 := b1.size
    clear b1 KA HE
    go_wp2_with fail
    refine KV.out.mono ?_
    rintro e w2 ⟨v, E, rfl, hv, hlen, hown, b2⟩
    obtain ⟨a2, cc, rfl, hat, _⟩ := evs_own hown
    have sz2 := b2.size
    have BEL2 := Lib.hid (BEL1.out.trans (b2.mono (by omega)))
    have HAT := Lib.hid hat
    have HV := Lib.hid hv
    obtain ⟨n, hn⟩ : ∃ n, E.length = n := ⟨_, rfl⟩
    have HG := Lib.hid (fun k (hk : k < n) => (⟨E[k]'(by omega), List.getElem?_eq_getElem _⟩ : ∃ x, E[k]? = some x))
    have hn100 : n ≤ 100 := by omega
    have HN := Lib.hid hn
    rw [hn]
    clear hown hat b2 hv KV hlen hn
    go_wp2_with fail
    go_loopw [6, 7, 19] (fun s6 s7 s19 wr => ∃ k : Nat, k ≤ n ∧ s19 = .int .i64 k ∧ s7 = .int .i64 (lastC E k) ∧ s6 = .int .i64 (leN E (lastC E k) : Nat) ∧ EvsAt wr a2 E ∧ Below w.heap.size w wr)
      (fun _ _ s19 _ => n - (intOf s19).toNat)
    case atStart => exact ⟨0, by omega, rfl, rfl, by show Value.int .i64 0 = .int .i64 (leN E (-1) : Nat); rw [lastC_zero HV.out]; rfl, HAT.out, BEL2.out⟩
    case round =>
      obtain ⟨k, hk, rfl, rfl, rfl, hatr, bel⟩ := hrel
      have hsz := bel.size
      by_cases hlt : k < n
      · obtain ⟨x, hx⟩ := HG.out k hlt
        have e1 : decide (k < n) = true := by simpa using hlt
        obtain ⟨b, o, rfl, hbl, hc⟩ := hatr k x hx
        have hnx := lastC_next hx
        have hle1 : leN E (lastC E k) ≤ 100 := by have := leN_len E (lastC E k); have := HN.out; omega
        by_cases hcy : x.cy = lastC E k
        · have t0 := (bne_eq_false_iff_eq.2 hcy : (x.cy != lastC E k) = false)
          rw [← hnx] at hcy
          obtain ⟨cy, kd, nn⟩ := x
          have c0 := hc 0 _ rfl
          have c1 := hc 1 _ rfl
          have c2 := hc 2 _ rfl
          simp only [Nat.add_zero] at c0 c1 c2
          simp only at t0 hnx
          have i1 : (0 : Int) ≤ (k : Int) := by omega
          have i2 : (k : Int) < (n : Int) := by omega
          have HAT2 := Lib.hid hatr
          have BEL := Lib.hid bel
          have HC := Lib.hid hcy
          have HNX := Lib.hid hnx
          clear hc hx hatr bel hcy hnx
          go_wp2_with fail
          go_roundw
          case rel => exact ⟨k + 1, by omega, by go_num, by rw [HNX.out], by rw [HC.out], HAT2.out.below ((Below.refl _ _).alloc (Nat.le_refl _) _), BEL.out.alloc (by omega) _⟩
          case measure => simp [intOf]; omega
        · have t0 := (bne_iff_ne.2 hcy : (x.cy != lastC E k) = true)
          have hst : leN E (lastC E (k + 1)) = leN E (lastC E k) + (atL E x.cy).length := by rw [hnx]; exact lastC_step HV.out hx hcy
          obtain ⟨cy, kd, nn⟩ := x
          have c0 := hc 0 _ rfl
          have c1 := hc 1 _ rfl
          have c2 := hc 2 _ rfl
          simp only [Nat.add_zero] at c0 c1 c2
          simp only at t0 hnx hst
          have i1 : (0 : Int) ≤ (k : Int) := by omega
          have i2 : (k : Int) < (n : Int) := by omega
          have KT := Lib.hid (fun W (hb : Below wr.heap.size wr W) => at_any _ cc E cy W (hatr.below hb) (by have := HN.out; omega))
          have HAT2 := Lib.hid hatr
          have BEL := Lib.hid bel
          have HC := Lib.hid hst
          have HNX := Lib.hid hnx
          clear hc hx hatr bel hcy hnx hst
          have hle2 : (atL E cy).length ≤ 100 := by have := List.length_filter_le (fun e : Ev => e.cy == cy) E; have := HN.out; unfold atL; omega
          have KT := KT.out (wr.alloc (.cells #[.int .i64 cy, .int .i64 kd, .int .i64 nn] 28)) ((Below.refl _ _).alloc (Nat.le_refl _) _)
          rw [HN.out] at KT
          have KT := Lib.hid KT
          have B5 := Lib.hid (Blk.new wr 28 #[.int .i64 cy, .int .i64 kd, .int .i64 nn])
          go_wp2_with fail
          refine KT.out.mono ?_
          rintro e w5 ⟨v5, rfl, hown5, b5⟩
          obtain ⟨a5, c5, rfl, _, _⟩ := evs_own hown5
          have q0 : w5.cell? ⟨wr.heap.size, 0, none⟩ = some (.int .i64 cy) := (B5.out.below b5 (by simp)).cell 0
          have HAT5 := Lib.hid ((HAT2.out.below ((Below.refl _ _).alloc (Nat.le_refl _) (.cells #[.int .i64 cy, .int .i64 kd, .int .i64 nn] 28))).below b5)
          have BEL5 := Lib.hid ((BEL.out.alloc (by omega) (.cells #[.int .i64 cy, .int .i64 kd, .int .i64 nn] 28)).trans (b5.mono (by simp; omega)))
          clear hown5 b5 B5 KT c0 c1 c2
          obtain ⟨m1, hm1⟩ : ∃ m, leN E (lastC E k) = m := ⟨_, rfl⟩
          obtain ⟨m2, hm2⟩ : ∃ m, (atL E cy).length = m := ⟨_, rfl⟩
          rw [hm1, hm2] at HC
          rw [hm1] at hle1
          rw [hm2] at hle2
          simp only [hm1, hm2]
          clear hm1 hm2
          go_wp2_with fail
          go_roundw
          case rel => exact ⟨k + 1, by omega, by go_num, by rw [HNX.out], by rw [HC.out]; simp, HAT5.out, BEL5.out⟩
          case measure => simp [intOf]; omega
      · obtain rfl : k = n := by omega
        have e1 : decide (k < k) = false := by simp
        have hend : leN E (lastC E k) = k := by have := lastC_end HV.out; rw [HN.out] at this; exact this
        rw [hend]
        have KT1 := Lib.hid (at_any a2 cc E cyc wr hatr (by have := HN.out; omega))
        have HAT2 := Lib.hid hatr
        have BEL := Lib.hid bel
        clear hatr bel hend
        rw [HN.out] at KT1
        go_wp2_with fail
        refine KT1.out.mono ?_
        rintro e w5 ⟨v5, rfl, hown5, b5⟩
        obtain ⟨a5, c5, rfl, hat5, _⟩ := evs_own hown5
        have sz5 := b5.size
        have BEL5 := Lib.hid (BEL.out.trans (b5.mono (by omega)))
        have KT2 := rat_any a2 cc E cyc w5 (HAT2.out.below b5) (by have := HN.out; omega)
        rw [HN.out] at KT2
        have KT2 := Lib.hid KT2
        have HAT5 := Lib.hid hat5
        clear hown5 b5 hat5 KT1
        go_wp2_with fail
        refine KT2.out.mono ?_
        rintro e w6 ⟨v6, rfl, hown6, b6⟩
        obtain ⟨a6, c6, rfl, hat6, _⟩ := evs_own hown6
        have sz6 := b6.size
        have BEL6 := Lib.hid (BEL5.out.trans (b6.mono (by omega)))
        have KS := Lib.hid (same_any a5 a6 c5 c6 (atL E cyc) w6 (HAT5.out.below b6) hat6 (by have := List.length_filter_le (fun e : Ev => e.cy == cyc) E; have := HN.out; unfold atL; omega))
        clear hown6 b6 hat6 KT2
        go_wp2_with fail
        refine KS.out.mono ?_
        rintro e w7 ⟨rfl, b7⟩
        go_wp2_with fail
        go_ret
        exact ⟨rfl, BEL6.out.trans (b7.mono (by omega))⟩
end Go.Proofs.YtkafmpgihhnhdaaDoor
