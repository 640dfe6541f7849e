/-
  event.At and cncref33.At: the events of a cycle. Any list of at most 1,000,000 events.
-/
import Derived.Test.YtkafmpgihhnhdaaDoorParse33
namespace Go.Proofs.YtkafmpgihhnhdaaDoor
open Go Go.RowKit
set_option linter.unusedVariables false

def atL (l : List Ev) (c : Int) : List Ev := l.filter fun e => e.cy == c
theorem atL_yes {l : List Ev} {k : Nat} {x : Ev} {c : Int} (h : l[k]? = some x) (hc : x.cy = c) : atL (l.take (k + 1)) c = atL (l.take k) c ++ [x] := by
  obtain ⟨hl, rfl⟩ := List.getElem?_eq_some_iff.1 h
  unfold atL
  rw [List.take_succ_eq_append_getElem hl, List.filter_append]
  simp [hc]
theorem atL_no {l : List Ev} {k : Nat} {x : Ev} {c : Int} (h : l[k]? = some x) (hc : x.cy ≠ c) : atL (l.take (k + 1)) c = atL (l.take k) c := by
  obtain ⟨hl, rfl⟩ := List.getElem?_eq_some_iff.1 h
  unfold atL
  rw [List.take_succ_eq_append_getElem hl, List.filter_append]
  simp [hc]
theorem atL_len (l : List Ev) (k : Nat) (c : Int) : (atL (l.take k) c).length ≤ l.length := by
  have h1 := List.length_filter_le (fun e : Ev => e.cy == c) (l.take k)
  have h2 := List.length_take_le k l
  unfold atL
  rw [List.length_take] at h1
  omega
set_option maxRecDepth 100000 in
set_option maxHeartbeats 1000000 in
theorem at_any (a : Option Addr) (c : Nat) (l : List Ev) (cyc : Int) (w : World) (h : EvsAt w a l) (hn : l.length ≤ 1000000) :
    Calls Tryd.prog 19 #[.slice a l.length c, .int .i64 cyc] w fun e w' => ∃ v, e = .returned v ∧ w'.ownsRow w.heap.size 28 3 v (atL l cyc).length (evsC (atL l cyc)) ∧ Below w.heap.size w w' := by
  obtain ⟨n, hln⟩ : ∃ n, l.length = n := ⟨_, rfl⟩
  have HG := Lib.hid (fun k (hk : k < n) => (⟨l[k]'(by omega), List.getElem?_eq_getElem _⟩ : ∃ x, l[k]? = some x))
  have HLN := Lib.hid hln
  have H := Lib.hid h
  rw [hln]
  rw [hln] at hn
  clear hln h
  go_enter Tryd.func19, Tryd.ntmps19
  go_wp2
  go_loopw [5, 10] (fun s5 s10 wr => ∃ k : Nat, k ≤ n ∧ s10 = .int .i64 k ∧ wr.ownsRow w.heap.size 28 3 s5 (atL (l.take k) cyc).length (evsC (atL (l.take k) cyc)) ∧ Below w.heap.size w wr)
    (fun _ s10 _ => n - (intOf s10).toNat)
  case atStart => exact ⟨0, by omega, rfl, World.ownsRow_nil _ _ _ _, Below.refl _ _⟩
  case round =>
    obtain ⟨k, hk, rfl, hown, bel⟩ := hrel
    have hsz := bel.size
    by_cases hlt : k < n
    · obtain ⟨x, hx⟩ := HG.out k hlt
      have e1 : decide (k < n) = true := by simpa using hlt
      obtain ⟨b, o, rfl, _, hc⟩ := H.out.below bel k x hx
      have HLL := Lib.hid (atL_len l k cyc)
      by_cases hcy : x.cy = cyc
      · have hs := atL_yes hx hcy
        obtain ⟨cy, kd, nn⟩ := x
        simp only at hcy
        have c0 := hc 0 _ rfl
        have c1 := hc 1 _ rfl
        have c2 := hc 2 _ rfl
        simp only [Nat.add_zero] at c0 c1 c2
        have i1 : (0 : Int) ≤ (k : Int) := by omega
        have i2 : (k : Int) < (n : Int) := by omega
        have t0 := (by simpa using hcy : (cy == cyc) = true)
        have HOWN := Lib.hid hown
        have BEL := Lib.hid bel
        have HS := Lib.hid hs
        clear hc hx hown bel hs hcy
        go_wp2_with (first
          | ((with_reducible refine go_ev1 (.tmp 19) cy kd nn (by with_unfolding_all rfl) ?_))
          | ((with_reducible refine go_evapp (.tmp 18) (.tmp 20) (atL (l.take k) cyc) ⟨cy, kd, nn⟩ _ (by with_unfolding_all rfl) ((HOWN.out.alloc _).alloc _) (by with_unfolding_all rfl) (by with_unfolding_all exact Blk.new (wr.alloc _) _ _) (by have := HLL.out; have := HLN.out; omega) (by simp; omega) ?_); intro v' w4 hown4 hgrow; have bel4 : Below w.heap.size w w4 := ((BEL.out.alloc (by omega) _).alloc (by simp; omega) _).trans (below_of_grown hgrow (by simp; omega) (fun k e => ((HOWN.out).lt k e).1)); have FF := Lib.hid (And.intro hown4 bel4); clear hown4 bel4 hgrow))
        go_roundw
        case rel => exact ⟨k + 1, by omega, by go_num, by rw [HS.out]; exact FF.out.1, FF.out.2⟩
        case measure => simp [intOf]; omega
      · have hs := atL_no hx hcy
        obtain ⟨cy, kd, nn⟩ := x
        simp only at hcy
        have c0 := hc 0 _ rfl
        have c1 := hc 1 _ rfl
        have c2 := hc 2 _ rfl
        simp only [Nat.add_zero] at c0 c1 c2
        have i1 : (0 : Int) ≤ (k : Int) := by omega
        have i2 : (k : Int) < (n : Int) := by omega
        have t0 := (by simpa using hcy : (cy == cyc) = false)
        have HOWN := Lib.hid hown
        have BEL := Lib.hid bel
        have HS := Lib.hid hs
        clear hc hx hown bel hs hcy
        go_wp2_with fail
        go_roundw
        case rel => exact ⟨k + 1, by omega, by go_num, by rw [HS.out]; exact HOWN.out.alloc _, BEL.out.alloc (by omega) _⟩
        case measure => simp [intOf]; omega
    · obtain rfl : k = n := by omega
      have e1 : decide (k < k) = false := by simp
      have ht : l.take k = l := List.take_of_length_le (by have := HLN.out; omega)
      rw [ht] at hown
      obtain ⟨a5, c5, rfl, _, _⟩ := evs_own hown
      have HOWN := Lib.hid hown
      have BEL := Lib.hid bel
      clear hown bel ht
      go_wp2_with fail
      go_ret
      exact ⟨_, rfl, HOWN.out, BEL.out⟩
set_option maxRecDepth 100000 in
set_option maxHeartbeats 1000000 in
theorem rat_any (a : Option Addr) (c : Nat) (l : List Ev) (cyc : Int) (w : World) (h : EvsAt w a l) (hn : l.length ≤ 1000000) :
    Calls Tryd.prog 20 #[.slice a l.length c, .int .i64 cyc] w fun e w' => ∃ v, e = .returned v ∧ w'.ownsRow w.heap.size 28 3 v (atL l cyc).length (evsC (atL l cyc)) ∧ Below w.heap.size w w' := by
  obtain ⟨n, hln⟩ : ∃ n, l.length = n := ⟨_, rfl⟩
  have HG := Lib.hid (fun k (hk : k < n) => (⟨l[k]'(by omega), List.getElem?_eq_getElem _⟩ : ∃ x, l[k]? = some x))
  have HLN := Lib.hid hln
  have H := Lib.hid h
  rw [hln]
  rw [hln] at hn
  clear hln h
  go_enter Tryd.func20, Tryd.ntmps20
  go_wp2
  go_loopw [5, 10] (fun s5 s10 wr => ∃ k : Nat, k ≤ n ∧ s10 = .int .i64 k ∧ wr.ownsRow w.heap.size 28 3 s5 (atL (l.take k) cyc).length (evsC (atL (l.take k) cyc)) ∧ Below w.heap.size w wr)
    (fun _ s10 _ => n - (intOf s10).toNat)
  case atStart => exact ⟨0, by omega, rfl, World.ownsRow_nil _ _ _ _, Below.refl _ _⟩
  case round =>
    obtain ⟨k, hk, rfl, hown, bel⟩ := hrel
    have hsz := bel.size
    by_cases hlt : k < n
    · obtain ⟨x, hx⟩ := HG.out k hlt
      have e1 : decide (k < n) = true := by simpa using hlt
      obtain ⟨b, o, rfl, _, hc⟩ := H.out.below bel k x hx
      have HLL := Lib.hid (atL_len l k cyc)
      by_cases hcy : x.cy = cyc
      · have hs := atL_yes hx hcy
        obtain ⟨cy, kd, nn⟩ := x
        simp only at hcy
        have c0 := hc 0 _ rfl
        have c1 := hc 1 _ rfl
        have c2 := hc 2 _ rfl
        simp only [Nat.add_zero] at c0 c1 c2
        have i1 : (0 : Int) ≤ (k : Int) := by omega
        have i2 : (k : Int) < (n : Int) := by omega
        have t0 := (by simpa using hcy : (cy == cyc) = true)
        have HOWN := Lib.hid hown
        have BEL := Lib.hid bel
        have HS := Lib.hid hs
        clear hc hx hown bel hs hcy
        go_wp2_with (first
          | ((with_reducible refine go_ev1 (.tmp 19) cy kd nn (by with_unfolding_all rfl) ?_))
          | ((with_reducible refine go_evapp (.tmp 18) (.tmp 20) (atL (l.take k) cyc) ⟨cy, kd, nn⟩ _ (by with_unfolding_all rfl) ((HOWN.out.alloc _).alloc _) (by with_unfolding_all rfl) (by with_unfolding_all exact Blk.new (wr.alloc _) _ _) (by have := HLL.out; have := HLN.out; omega) (by simp; omega) ?_); intro v' w4 hown4 hgrow; have bel4 : Below w.heap.size w w4 := ((BEL.out.alloc (by omega) _).alloc (by simp; omega) _).trans (below_of_grown hgrow (by simp; omega) (fun k e => ((HOWN.out).lt k e).1)); have FF := Lib.hid (And.intro hown4 bel4); clear hown4 bel4 hgrow))
        go_roundw
        case rel => exact ⟨k + 1, by omega, by go_num, by rw [HS.out]; exact FF.out.1, FF.out.2⟩
        case measure => simp [intOf]; omega
      · have hs := atL_no hx hcy
        obtain ⟨cy, kd, nn⟩ := x
        simp only at hcy
        have c0 := hc 0 _ rfl
        have c1 := hc 1 _ rfl
        have c2 := hc 2 _ rfl
        simp only [Nat.add_zero] at c0 c1 c2
        have i1 : (0 : Int) ≤ (k : Int) := by omega
        have i2 : (k : Int) < (n : Int) := by omega
        have t0 := (by simpa using hcy : (cy == cyc) = false)
        have HOWN := Lib.hid hown
        have BEL := Lib.hid bel
        have HS := Lib.hid hs
        clear hc hx hown bel hs hcy
        go_wp2_with fail
        go_roundw
        case rel => exact ⟨k + 1, by omega, by go_num, by rw [HS.out]; exact HOWN.out.alloc _, BEL.out.alloc (by omega) _⟩
        case measure => simp [intOf]; omega
    · obtain rfl : k = n := by omega
      have e1 : decide (k < k) = false := by simp
      have ht : l.take k = l := List.take_of_length_le (by have := HLN.out; omega)
      rw [ht] at hown
      obtain ⟨a5, c5, rfl, _, _⟩ := evs_own hown
      have HOWN := Lib.hid hown
      have BEL := Lib.hid bel
      clear hown bel ht
      go_wp2_with fail
      go_ret
      exact ⟨_, rfl, HOWN.out, BEL.out⟩
end Go.Proofs.YtkafmpgihhnhdaaDoor
