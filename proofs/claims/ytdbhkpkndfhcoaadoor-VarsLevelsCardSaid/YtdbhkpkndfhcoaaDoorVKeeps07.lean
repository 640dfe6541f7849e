/-
  VarsKeeps returns true. Its arguments: any.
-/
import Derived.Test.YtdbhkpkndfhcoaaDoorLawsV07
namespace Go.Proofs.YtdbhkpkndfhcoaaDoor
open Go Go.RowKit
set_option linter.unusedVariables false

/-- The numbers near the limits of the sets. -/
def nearL : List Int := [0, 1, 2, 3, 32, 33, 34, 99, 100, 101, 199, 200, 4999, 5000, 5021, 5999, 6000]
/-- The variable of an act. -/
def varOf (N : Int) (near : Bool) : Int := if near then nearL.getD (N % 17).toNat 0 else N
theorem near_cell (w : World) (i : Nat) (hi : i < 17) : (w.alloc (.cells (nearL.map (Value.int .i64)).toArray 3)).cell? ⟨w.heap.size, i, none⟩ = some (.int .i64 (nearL.getD i 0)) := by
  rw [(Blk.new w _ _).cell]
  have hl : i < nearL.length := hi
  simp [List.getD, List.getElem?_eq_getElem hl]
set_option maxRecDepth 100000 in
theorem variable_any (W N V : Int) (near : Bool) (args : Value) (h1 : args.oneCell' = true) (w : World) : Calls Tryd.prog 19 #[.agg #[.int .i64 W, .int .i64 N, .int .i64 V, .bool near, args]] w fun e w' => e = .returned (.int .i64 (varOf N near)) ∧ Below w.heap.size w w' := by
  have bel0 := (Below.refl w.heap.size w).alloc (Nat.le_refl _) (.cells #[.int .i64 W, .int .i64 N, .int .i64 V, .bool near, args] 40)
  have hb := Blk.new w 40 #[.int .i64 W, .int .i64 N, .int .i64 V, .bool near, args]
  have c1 := hb.cell' 1 rfl
  have c3 := hb.cell' 3 rfl
  cases near
  · go_enter Tryd.func19, Tryd.ntmps19
    go_wp2_with fail
    go_ret
    exact ⟨ret_int rfl, bel0⟩
  · have hm1 := Int.emod_nonneg N (show (17 : Int) ≠ 0 by omega)
    have hm2 := Int.emod_lt_of_pos N (show (0 : Int) < 17 by omega)
    have KM := Lib.hid (fun W => mod_any N 17 W (by omega) (by omega))
    have ev : varOf N true = nearL.getD (N % 17).toNat 0 := rfl
    rw [ev]
    generalize N % 17 = r at *
    have hc := near_cell (w.alloc (.cells #[.int .i64 W, .int .i64 N, .int .i64 V, .bool true, args] 40)) r.toNat (by omega)
    generalize nearL.getD r.toNat 0 = z at *
    rw [World.size_alloc] at hc
    have bel := bel0.alloc (by simp) (.cells (nearL.map (Value.int .i64)).toArray 3)
    unfold nearL at hc bel
    simp only [List.map_cons, List.map_nil] at hc bel
    go_enter Tryd.func19, Tryd.ntmps19
    go_wp2_with fail
    refine (KM.out _).mono ?_
    rintro e w' ⟨rfl, rfl⟩
    go_wp2_with fail
    go_ret
    exact ⟨ret_int rfl, bel⟩

def putE (k v : Int) : Int := if 5000 ≤ k then hostE k v else setE k v
def putVs (n : Nat) (V : List Int) (k v : Int) : List Int := if 5000 ≤ k then V else setVs n V k v
def putC (C : Nat → Int) (k v : Int) : Nat → Int := if 5000 ≤ k then hostC C k v else setC C k v
theorem put_any {base s g cap n : Nat} {V : List Int} {C : Nat → Int} (k v : Int) (w : World) (h : StAt w base s g cap n V C) :
    Calls Tryd.prog 20 #[.pointer (some ⟨s, 0, none⟩), .int .i64 k, .int .i64 v] w fun e w' => e = .returned (.int .i64 (putE k v)) ∧ StAt w' base s g cap n (putVs n V k v) (putC C k v) ∧ Only s g w w' := by
  unfold putE putVs putC
  by_cases hk : 5000 ≤ k
  · rw [if_pos hk, if_pos hk, if_pos hk]
    have K := Lib.hid (host_any k v w h)
    go_enter Tryd.func20, Tryd.ntmps20
    go_wp2_with fail
    refine K.out.mono ?_
    rintro e w' ⟨rfl, h', ho⟩
    go_wp2_with fail
    go_ret
    exact ⟨rfl, h', ho⟩
  · rw [if_neg hk, if_neg hk, if_neg hk]
    have K := Lib.hid (set_any k v w h)
    have hk' : k < 5000 := by omega
    go_enter Tryd.func20, Tryd.ntmps20
    go_wp2_with fail
    refine K.out.mono ?_
    rintro e w' ⟨rfl, h', ho⟩
    go_wp2_with fail
    go_ret
    exact ⟨rfl, h', ho⟩

/-! ### The plain law -/
theorem putE_none {k v : Int} (h : noVar k) : putE k v = 6 := by
  unfold putE hostE setE
  obtain ⟨h1, h2, h3⟩ := h
  by_cases h : 5000 ≤ k
  · rw [if_pos h, if_neg h3]
  · rw [if_neg h, if_neg h3, if_neg (fun x => x.elim h1 h2)]
theorem putE_some {k v : Int} (h : ¬ noVar k) (hv : okV v) : putE k v = 0 := by
  have hk := kinds k
  unfold putE hostE setE
  rcases hk with ⟨i, hi, rfl⟩ | ⟨i, hi, rfl⟩ | ⟨i, hi, rfl⟩ | hk
  · rw [if_neg (by omega), if_neg (by omega), if_pos (by omega), if_pos hv]
  · rw [if_neg (by omega), if_neg (by omega), if_pos (by omega), if_pos hv]
  · rw [if_pos (by omega), if_pos (by omega), if_pos hv]
  · exact absurd hk h
theorem putVs_local {n i : Nat} {V : List Int} {v : Int} (hi : i < 33) (hv : okV v) : putVs n V ((i : Int) + 1) v = V.set ((n - 1) * 33 + i) v := by
  unfold putVs setVs
  rw [if_neg (by omega), if_pos ⟨by omega, hv⟩, show ((i : Int) + 1 - 1).toNat = i by omega]
theorem putVs_other {n : Nat} {V : List Int} {k v : Int} (hk : ¬ (1 ≤ k ∧ k ≤ 33)) : putVs n V k v = V := by
  unfold putVs setVs
  split
  · rfl
  · exact if_neg (fun x => hk x.1)
theorem putC_common {C : Nat → Int} {i : Nat} {v : Int} (hi : i < 100) (hv : okV v) : putC C ((i : Int) + 100) v = updC C i v := by
  unfold putC setC
  rw [if_neg (by omega), if_pos ⟨by omega, hv⟩, show ((i : Int) + 100 - 100).toNat = i by omega]
theorem putC_system {C : Nat → Int} {i : Nat} {v : Int} (hi : i < 1000) (hv : okV v) : putC C ((i : Int) + 5000) v = updC C (100 + i) v := by
  unfold putC hostC
  rw [if_pos (by omega), if_pos ⟨by omega, hv⟩, show ((i : Int) + 5000 - 5000).toNat = i by omega]
theorem putC_other {C : Nat → Int} {k v : Int} (h1 : ¬ (100 ≤ k ∧ k ≤ 199)) (h2 : ¬ (5000 ≤ k ∧ k ≤ 5999)) : putC C k v = C := by
  unfold putC hostC setC
  split
  · exact if_neg (fun x => h2 x.1)
  · exact if_neg (fun x => h1 x.1)
/-- A variable that is set has its value, the others keep theirs. -/
theorem get_put {n : Nat} {V : List Int} {C : Nat → Int} {k v : Int} (j : Int) (hn : 1 ≤ n) (hV : V.length = n * 33) (hv : okV v) (hk : ¬ noVar k) : getV n (putVs n V k v) (putC C k v) j = if j = k then (v, 0) else getV n V C j := by
  rcases kinds k with ⟨i, hi, rfl⟩ | ⟨i, hi, rfl⟩ | ⟨i, hi, rfl⟩ | hk'
  · rw [putVs_local hi hv, putC_other (by omega) (by omega)]
    rcases kinds j with ⟨i', hi', rfl⟩ | ⟨i', hi', rfl⟩ | ⟨i', hi', rfl⟩ | hj
    · rw [getV_local _ _ _ hi', getV_local _ _ _ hi']
      by_cases e : i' = i
      · subst e
        rw [if_pos rfl]
        have : (n - 1) * 33 + i' < V.length := by omega
        simp [List.getD, this]
      · rw [if_neg (by omega)]
        have e' : ¬ i = i' := fun x => e x.symm
        simp [List.getD, e']
    · rw [getV_common _ _ _ hi', getV_common _ _ _ hi', if_neg (by omega)]
    · rw [getV_system _ _ _ hi', getV_system _ _ _ hi', if_neg (by omega)]
    · rw [getV_none _ _ _ hj, getV_none _ _ _ hj, if_neg (fun e => by rw [e] at hj; exact hk hj)]
  · rw [putVs_other (by omega), putC_common hi hv]
    rcases kinds j with ⟨i', hi', rfl⟩ | ⟨i', hi', rfl⟩ | ⟨i', hi', rfl⟩ | hj
    · rw [getV_local _ _ _ hi', getV_local _ _ _ hi', if_neg (by omega)]
    · rw [getV_common _ _ _ hi', getV_common _ _ _ hi']
      unfold updC
      by_cases e : i' = i
      · subst e
        rw [if_pos rfl, if_pos rfl]
      · rw [if_neg e, if_neg (by omega)]
    · rw [getV_system _ _ _ hi', getV_system _ _ _ hi', if_neg (by omega)]
      unfold updC
      rw [if_neg (by omega)]
    · rw [getV_none _ _ _ hj, getV_none _ _ _ hj, if_neg (fun e => by rw [e] at hj; exact hk hj)]
  · rw [putVs_other (by omega), putC_system hi hv]
    rcases kinds j with ⟨i', hi', rfl⟩ | ⟨i', hi', rfl⟩ | ⟨i', hi', rfl⟩ | hj
    · rw [getV_local _ _ _ hi', getV_local _ _ _ hi', if_neg (by omega)]
    · rw [getV_common _ _ _ hi', getV_common _ _ _ hi', if_neg (by omega)]
      unfold updC
      rw [if_neg (by omega)]
    · rw [getV_system _ _ _ hi', getV_system _ _ _ hi']
      unfold updC
      by_cases e : i' = i
      · subst e
        rw [if_pos rfl, if_pos rfl]
      · rw [if_neg (by omega), if_neg (by omega)]
    · rw [getV_none _ _ _ hj, getV_none _ _ _ hj, if_neg (fun e => by rw [e] at hj; exact hk hj)]
  · exact absurd hk' hk
theorem put_none {n : Nat} {V : List Int} {C : Nat → Int} {k v : Int} (h : noVar k) : putVs n V k v = V ∧ putC C k v = C := ⟨putVs_other h.1, putC_other h.2.1 h.2.2⟩
theorem getE_some {n : Nat} {V : List Int} {C : Nat → Int} {k : Int} (h : ¬ noVar k) : (getV n V C k).2 = 0 := by
  rcases kinds k with ⟨i, hi, rfl⟩ | ⟨i, hi, rfl⟩ | ⟨i, hi, rfl⟩ | hk'
  · rw [getV_local _ _ _ hi]
  · rw [getV_common _ _ _ hi]
  · rw [getV_system _ _ _ hi]
  · exact absurd hk' h
instance (k : Int) : Decidable (noVar k) := inferInstanceAs (Decidable (_ ∧ _ ∧ _))
/-- The five ways. -/
theorem keeps_cases {V : List Int} {C : Nat → Int} {n m v u : Int} (hV : V.length = 1 * 33) (hv : okV v) (hu : okV u) :
    let V1 := putVs 1 V n v; let C1 := putC C n v; let V2 := putVs 1 V1 m u; let C2 := putC C1 m u
    (putE n v = 6 ∧ putE m u = 6 ∧ getV 1 V2 C2 n = (0, 6) ∧ getV 1 V2 C2 m = (0, 6)) ∨
    (putE n v = 6 ∧ putE m u = 0 ∧ getV 1 V2 C2 n = (0, 6) ∧ getV 1 V2 C2 m = (u, 0)) ∨
    (putE n v = 0 ∧ putE m u = 6 ∧ getV 1 V2 C2 n = (v, 0) ∧ getV 1 V2 C2 m = (0, 6)) ∨
    (putE n v = 0 ∧ putE m u = 0 ∧ getV 1 V2 C2 n = (u, 0) ∧ getV 1 V2 C2 m = (u, 0) ∧ (n == m) = true) ∨
    (putE n v = 0 ∧ putE m u = 0 ∧ getV 1 V2 C2 n = (v, 0) ∧ getV 1 V2 C2 m = (u, 0) ∧ (n == m) = false) := by
  intro V1 C1 V2 C2
  have hV1 : V1.length = 1 * 33 := by
    show (putVs 1 V n v).length = _
    unfold putVs setVs
    split
    · exact hV
    · split
      · rw [List.length_set]; exact hV
      · exact hV
  by_cases hn : noVar n
  · by_cases hm : noVar m
    · exact .inl ⟨putE_none hn, putE_none hm, getV_none _ _ _ hn, getV_none _ _ _ hm⟩
    · refine .inr (.inl ⟨putE_none hn, putE_some hm hu, getV_none _ _ _ hn, ?_⟩)
      show getV 1 (putVs 1 V1 m u) (putC C1 m u) m = _
      rw [get_put (n := 1) (V := V1) (C := C1) m (by omega) hV1 hu hm, if_pos rfl]
  · have g1 : getV 1 V1 C1 n = (v, 0) := by
      show getV 1 (putVs 1 V n v) (putC C n v) n = _
      rw [get_put (n := 1) (V := V) (C := C) n (by omega) hV hv hn, if_pos rfl]
    by_cases hm : noVar m
    · refine .inr (.inr (.inl ⟨putE_some hn hv, putE_none hm, ?_, getV_none _ _ _ hm⟩))
      show getV 1 (putVs 1 V1 m u) (putC C1 m u) n = _
      rw [(put_none (n := 1) (V := V1) (C := C1) (v := u) hm).1, (put_none (n := 1) (V := V1) (C := C1) (v := u) hm).2]
      exact g1
    · have g2 : getV 1 V2 C2 m = (u, 0) := by
        show getV 1 (putVs 1 V1 m u) (putC C1 m u) m = _
        rw [get_put (n := 1) (V := V1) (C := C1) m (by omega) hV1 hu hm, if_pos rfl]
      by_cases e : n = m
      · refine .inr (.inr (.inr (.inl ⟨putE_some hn hv, putE_some hm hu, ?_, g2, by simp [e]⟩)))
        rw [e]; exact g2
      · refine .inr (.inr (.inr (.inr ⟨putE_some hn hv, putE_some hm hu, ?_, g2, by simp [e]⟩)))
        show getV 1 (putVs 1 V1 m u) (putC C1 m u) n = _
        rw [get_put (n := 1) (V := V1) (C := C1) n (by omega) hV1 hu hm, if_neg e]
        exact g1

set_option maxRecDepth 100000 in
set_option maxHeartbeats 2000000 in
theorem vkeeps_walk (a0 a1 a2 a3 : Int) (w : World) (ht : Lib.TabIs Tryd.prog w "cnc/vars.numbers" .i64 tabNums) : Calls Tryd.prog 5 #[.int .i64 a0, .int .i64 a1, .int .i64 a2, .int .i64 a3] w fun e w' => e = .returned (.bool true) ∧ Below w.heap.size w w' := by
  have hw0 := tab_pos ht
  have KV1 := Lib.hid (fun W => variable_any 0 a0 0 true (.slice none 0 0) rfl W)
  have KV2 := Lib.hid (fun W => variable_any 0 a1 0 true (.slice none 0 0) rfl W)
  generalize varOf a0 true = n at *
  generalize varOf a1 true = m at *
  have KB1 := Lib.hid (fun W => between_any a2 (-1000000000000000) 1000000000000000 W (by omega) (by omega) (by omega))
  have KB2 := Lib.hid (fun W => between_any a3 (-1000000000000000) 1000000000000000 W (by omega) (by omega) (by omega))
  have hv := between_bd a2 (-1000000000000000) 1000000000000000 (by omega)
  have hu := between_bd a3 (-1000000000000000) 1000000000000000 (by omega)
  generalize -1000000000000000 + a2 % (1000000000000000 - -1000000000000000 + 1) = v at *
  generalize -1000000000000000 + a3 % (1000000000000000 - -1000000000000000 + 1) = u at *
  have ways := keeps_cases (V := List.replicate 33 0) (C := fun _ => 0) (n := n) (m := m) rfl hv hu
  have WAYS := Lib.hid ways
  clear ways hv hu
  go_enter Tryd.func5, Tryd.ntmps5
  go_wp2_with fail
  refine (KV1.out _).mono ?_
  rintro e w1 ⟨rfl, b1⟩
  go_wp2_with fail
  refine (KV2.out _).mono ?_
  rintro e w2 ⟨rfl, b2⟩
  go_wp2_with fail
  refine (KB1.out _).mono ?_
  rintro e w' ⟨rfl, rfl⟩
  go_wp2_with fail
  refine (KB2.out _).mono ?_
  rintro e w' ⟨rfl, rfl⟩
  have b12 := b1.trans (b2.mono b1.size)
  go_wp2_with fail
  refine (new_any _).mono ?_
  rintro e w3 ⟨s, g, rfl, h3, b3⟩
  have b13 := b12.trans (b3.mono b12.size)
  have T3 := Lib.hid (tab_below ht b13 hw0)
  have hsz2 := b12.size
  clear b1 b2 b3 b12
  go_wp2_with fail
  refine (awake_true _ T3.out).mono ?_
  rintro e w4 ⟨rfl, b4⟩
  have b14 := b13.trans (b4.mono b13.size)
  have H4 := Lib.hid (h3.below b4)
  clear h3 b4 b13 T3
  rcases WAYS.out with ⟨e1, e2, e3, e4⟩ | ⟨e1, e2, e3, e4⟩ | ⟨e1, e2, e3, e4⟩ | ⟨e1, e2, e3, e4, e5⟩ | ⟨e1, e2, e3, e4, e5⟩
  all_goals
    have K1 := put_any n v w4 H4.out
    rw [e1] at K1
    have KK1 := Lib.hid K1
    have E2 := Lib.hid e2
    have E3 := Lib.hid e3
    have E4 := Lib.hid e4
    clear K1 e1 e2 e3 e4
    go_wp2_with fail
    refine KK1.out.mono ?_
    rintro e w5 ⟨rfl, h5, ho5⟩
    have b15 := b14.trans ((ho5.below' H4.out).mono hsz2)
    have K2 := put_any m u w5 h5
    rw [E2.out] at K2
    have KK2 := Lib.hid K2
    have H5 := Lib.hid h5
    clear K2 h5 ho5 KK1
    go_wp2_with fail
    refine KK2.out.mono ?_
    rintro e w6 ⟨rfl, h6, ho6⟩
    have b16 := b15.trans ((ho6.below' H5.out).mono hsz2)
    have K3 := get_any n w6 h6
    have K4 := fun k => get_any m (w6.drewN k) (h6.drewN k)
    rw [E3.out] at K3
    simp only [E4.out] at K4
    have KK3 := Lib.hid K3
    have KK4 := Lib.hid K4
    clear K3 K4 h6 ho6 KK2
    go_wp2_with fail
    refine KK3.out.mono ?_
    rintro e w' ⟨rfl, k, rfl⟩
    go_wp2_with fail
    refine (KK4.out k).mono ?_
    rintro e w' ⟨rfl, k2, rfl⟩
    rw [World.drewN_drewN]
    go_wp2_with fail
    all_goals
      go_ret
      exact ⟨rfl, below_drewN b16 _⟩
end Go.Proofs.YtdbhkpkndfhcoaaDoor
