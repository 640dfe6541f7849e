/-
  arc.sector's half and contains; arc.Inside. Small numbers.
-/
import Derived.Test.YtefdjdipbnnoaaaGreatDoorArcC17
import Derived.Test.YtefdjdipbnnoaaaGreatDoorGeo17
import Derived.Test.YtefdjdipbnnoaaaGreatDoorBase17
namespace Go.Proofs.YtefdjdipbnnoaaaGreatDoor
open Go Go.RowKit
set_option linter.unusedVariables false
set_option linter.unusedSimpArgs false

/-- A sector and a direction in memory. -/
structure SecS (w : World) (au aw bu bw pu pw : Int) (W : World) : Prop where
  s : Blk W w.heap.size 127 #[.int .i64 au, .int .i64 aw, .int .i64 bu, .int .i64 bw]
  p : Blk W (w.heap.size + 1) 88 #[.int .i64 pu, .int .i64 pw]
  bel : Below w.heap.size w W
theorem SecS.below {w W W' : World} {au aw bu bw pu pw : Int} (h : SecS w au aw bu bw pu pw W) (b : Below W.heap.size W W') : SecS w au aw bu bw pu pw W' :=
  ⟨h.s.below b h.s.lt, h.p.below b h.p.lt, h.bel.trans (b.mono h.bel.size)⟩
set_option maxRecDepth 100000 in
theorem half_any (au aw bu bw pu pw : Int) (h1 : Sm au) (h2 : Sm aw) (h3 : Sm pu) (h4 : Sm pw) (w : World) : Calls Tryz.prog 115 #[.agg #[.int .i64 au, .int .i64 aw, .int .i64 bu, .int .i64 bw], .agg #[.int .i64 pu, .int .i64 pw]] w fun e w' => e = .returned (.int .i64 (halfV au aw pu pw)) ∧ Below w.heap.size w w' := by
  have KX := Lib.hid (fun W => cross_any au aw pu pw h1 h2 h3 h4 W)
  have KI := Lib.hid (fun W => inner_any au aw pu pw h1 h2 h3 h4 W)
  unfold halfV
  obtain ⟨c, hc⟩ : ∃ c, crs au aw pu pw = c := ⟨_, rfl⟩
  obtain ⟨n, hn⟩ : ∃ c, inn au aw pu pw = c := ⟨_, rfl⟩
  rw [hc] at KX ⊢
  rw [hn] at KI ⊢
  clear hc hn h1 h2 h3 h4
  obtain ⟨res, hres⟩ : ∃ r : Int, (if 0 < c ∨ c = 0 ∧ 0 < n then (0 : Int) else 1) = r := ⟨_, rfl⟩
  have HRES := Lib.hid hres
  rw [hres]
  clear hres
  go_enter Tryz.func115, Tryz.ntmps115
  go_upto_region 1 with fail
  refine wp_told (fun W => SecS w au aw bu bw pu pw W) ⟨(Blk.new w _ _).alloc _, blk_new1 w _ _ _, (by (repeat (first | exact Below.refl _ _ | refine Below.drew ?_ | refine Below.alloc ?_ (by first | exact Nat.le_refl _ | (simp; done) | (simp; omega)) _)))⟩ ?_
  rintro W1 hs
  have HS := Lib.hid hs
  have c0 : W1.cell? ⟨w.heap.size, 0, none⟩ = some (.int .i64 au) := hs.s.cell' 0 rfl
  have c1 : W1.cell? ⟨w.heap.size, 1, none⟩ = some (.int .i64 aw) := hs.s.cell' 1 rfl
  have c2 : W1.cell? ⟨w.heap.size, 2, none⟩ = some (.int .i64 bu) := hs.s.cell' 2 rfl
  have c3 : W1.cell? ⟨w.heap.size, 3, none⟩ = some (.int .i64 bw) := hs.s.cell' 3 rfl
  have d0 : W1.cell? ⟨w.heap.size + 1, 0, none⟩ = some (.int .i64 pu) := hs.p.cell' 0 rfl
  have d1 : W1.cell? ⟨w.heap.size + 1, 1, none⟩ = some (.int .i64 pw) := hs.p.cell' 1 rfl
  clear hs
  go_wp2_with fail
  refine (KX.out _).mono ?_
  rintro e W2 ⟨rfl, b2⟩
  have hs2 := HS.out.below b2
  have HS2 := Lib.hid hs2
  clear c0 c1 c2 c3 d0 d1 b2 HS
  have c0 : W2.cell? ⟨w.heap.size, 0, none⟩ = some (.int .i64 au) := hs2.s.cell' 0 rfl
  have c1 : W2.cell? ⟨w.heap.size, 1, none⟩ = some (.int .i64 aw) := hs2.s.cell' 1 rfl
  have c2 : W2.cell? ⟨w.heap.size, 2, none⟩ = some (.int .i64 bu) := hs2.s.cell' 2 rfl
  have c3 : W2.cell? ⟨w.heap.size, 3, none⟩ = some (.int .i64 bw) := hs2.s.cell' 3 rfl
  have d0 : W2.cell? ⟨w.heap.size + 1, 0, none⟩ = some (.int .i64 pu) := hs2.p.cell' 0 rfl
  have d1 : W2.cell? ⟨w.heap.size + 1, 1, none⟩ = some (.int .i64 pw) := hs2.p.cell' 1 rfl
  clear hs2
  by_cases hp : 0 < c
  · have e1 : decide (0 < c) = true := decide_eq_true hp
    have ER : res = 0 := by rw [← HRES.out, if_pos (.inl hp)]
    subst ER
    clear hp
    go_wp2_with fail
    go_ret
    exact ⟨rfl, HS2.out.bel⟩
  · have e1 : decide (0 < c) = false := decide_eq_false hp
    by_cases h0 : c = 0
    · subst h0
      clear hp e1
      go_wp2_with fail
      refine (KI.out _).mono ?_
      rintro e W3 ⟨rfl, b3⟩
      have BF := Lib.hid (HS2.out.below b3).bel
      clear b3
      by_cases hn : 0 < n
      · have e2 : decide (0 < n) = true := decide_eq_true hn
        have ER : res = 0 := by rw [← HRES.out]; simp [hn]
        subst ER
        clear hn
        go_wp2_with fail
        go_ret
        exact ⟨rfl, BF.out⟩
      · have e2 : decide (0 < n) = false := decide_eq_false hn
        have ER : res = 1 := by rw [← HRES.out, if_neg (by rintro (h | ⟨_, h⟩); exact absurd h (by decide); exact hn h)]
        subst ER
        clear hn
        go_wp2_with fail
        go_ret
        exact ⟨rfl, BF.out⟩
    · have e2 : (c == 0) = false := by simpa using h0
      have ER : res = 1 := by rw [← HRES.out, if_neg (by rintro (h | ⟨h, _⟩); exact hp h; exact h0 h)]
      subst ER
      clear h0 hp
      go_wp2_with fail
      go_ret
      exact ⟨rfl, HS2.out.bel⟩
set_option maxRecDepth 100000 in
theorem contains_any (au aw bu bw pu pw : Int) (h1 : Sm au) (h2 : Sm aw) (h3 : Sm pu) (h4 : Sm pw) (h5 : Sm bu) (h6 : Sm bw) (w : World) : Calls Tryz.prog 94 #[.agg #[.int .i64 au, .int .i64 aw, .int .i64 bu, .int .i64 bw], .agg #[.int .i64 pu, .int .i64 pw]] w fun e w' => e = .returned (.bool (contV au aw bu bw pu pw)) ∧ Below w.heap.size w w' := by
  have K1 := fun W => half_any au aw bu bw pu pw h1 h2 h3 h4 W
  have K2 := fun W => half_any au aw bu bw bu bw h1 h2 h5 h6 W
  have KX := Lib.hid (fun W => cross_any pu pw bu bw h3 h4 h5 h6 W)
  unfold contV
  obtain ⟨c, hc⟩ : ∃ c, crs pu pw bu bw = c := ⟨_, rfl⟩
  obtain ⟨x, hx⟩ : ∃ c, halfV au aw pu pw = c := ⟨_, rfl⟩
  obtain ⟨y, hy⟩ : ∃ c, halfV au aw bu bw = c := ⟨_, rfl⟩
  rw [hc] at KX ⊢
  rw [hx] at K1 ⊢
  rw [hy] at K2 ⊢
  clear hc hx hy h1 h2 h3 h4 h5 h6
  obtain ⟨res, hres⟩ : ∃ r : Bool, decide (x < y ∨ x = y ∧ 0 ≤ c) = r := ⟨_, rfl⟩
  have HRES := Lib.hid hres
  rw [hres]
  clear hres
  go_enter Tryz.func94, Tryz.ntmps94
  go_upto_region 1 with fail
  refine wp_told (fun W => SecS w au aw bu bw pu pw W) ⟨(Blk.new w _ _).alloc _, blk_new1 w _ _ _, (by (repeat (first | exact Below.refl _ _ | refine Below.drew ?_ | refine Below.alloc ?_ (by first | exact Nat.le_refl _ | (simp; done) | (simp; omega)) _)))⟩ ?_
  rintro W1 hs1
  let S : World → Prop := SecS w au aw bu bw pu pw
  have hs : S W1.drew := ⟨hs1.s.drew, hs1.p.drew, hs1.bel.drew⟩
  have inst : Nonempty (At S) := ⟨⟨_, hs⟩⟩
  have H1 := Lib.hid (fun q : At S => (K1 q.w).mono (fun e w' h => (⟨h.1, q.ok.below h.2⟩ : e = .returned (.int .i64 x) ∧ S w')))
  have H2 := Lib.hid (fun q : At S => (K2 q.w).mono (fun e w' h => (⟨h.1, q.ok.below h.2⟩ : e = .returned (.int .i64 y) ∧ S w')))
  have L1 := Lib.hid (fun q : At S => (show (Instr.loadAt 127 (.pointer (some ⟨w.heap.size, 0, none⟩))).run Tryz.prog q.w = .ok (.agg #[.int .i64 au, .int .i64 aw, .int .i64 bu, .int .i64 bw]) q.w from load_of (cs := [.int .i64 au, .int .i64 aw, .int .i64 bu, .int .i64 bw]) q.ok.s Tryz.underlying127 rfl (by kernel_rfl)))
  have L2 := Lib.hid (fun q : At S => (show (Instr.loadAt 88 (.pointer (some ⟨w.heap.size + 1, 0, none⟩))).run Tryz.prog q.w = .ok (.agg #[.int .i64 pu, .int .i64 pw]) q.w from load_of (cs := [.int .i64 pu, .int .i64 pw]) q.ok.p Tryz.underlying88 rfl (by kernel_rfl)))
  have L3 := Lib.hid (fun q : At S => (show (Instr.loadAt 88 (.pointer (some ⟨w.heap.size, 2, none⟩))).run Tryz.prog q.w = .ok (.agg #[.int .i64 bu, .int .i64 bw]) q.w from run_loadAt_mid q.w w.heap.size 2 88 [.int .i64 bu, .int .i64 bw] _ (fun j v hv => by
    match j, hv with
    | 0, hv => exact (q.ok.s.cell' 2 rfl).trans hv
    | 1, hv => exact (q.ok.s.cell' 3 rfl).trans hv) Tryz.underlying88 rfl (by kernel_rfl)))
  have HFIN : Hid (∀ q : At S, SecS w au aw bu bw pu pw q.w) := Lib.hid (fun q : At S => q.ok)
  clear K1 K2 hs1
  clear_value S
  refine wp_region_at S (by kernel_rfl) (by kernel_rfl) hs ?_
  try simp only [List.append_eq, List.cons_append, List.nil_append]
  repeat (first
    | (go_big_quiet_want; (first
        | refine quiet_load 127 (.tmp 2) rfl _ _ rfl L1.out ?_
        | refine quiet_load 88 (.tmp 3) rfl _ _ rfl L2.out ?_
        | refine quiet_load 88 (.tmp 11) rfl _ _ rfl L3.out ?_); simp only [Act.put, List.setIfInBounds_toArray, List.set_cons_zero, List.set_cons_succ]; go_big_quiet_on)
    | go_big_quiet_step (first | with_reducible exact Calls.at_of (H1.out _) fun e w' h => ⟨h.1, h.2⟩ | with_reducible exact Calls.at_of (H2.out _) fun e w' h => ⟨h.1, h.2⟩))
  refine wpQuiet_nil ?_
  rintro _ ⟨p, rfl⟩
  have hs2 := HFIN.out p
  generalize p.w = W2 at hs2 ⊢
  clear HFIN inst hs H1 H2 L1 L2 L3
  have HS2 := Lib.hid hs2
  have c0 : W2.cell? ⟨w.heap.size, 0, none⟩ = some (.int .i64 au) := hs2.s.cell' 0 rfl
  have c1 : W2.cell? ⟨w.heap.size, 1, none⟩ = some (.int .i64 aw) := hs2.s.cell' 1 rfl
  have c2 : W2.cell? ⟨w.heap.size, 2, none⟩ = some (.int .i64 bu) := hs2.s.cell' 2 rfl
  have c3 : W2.cell? ⟨w.heap.size, 3, none⟩ = some (.int .i64 bw) := hs2.s.cell' 3 rfl
  have d0 : W2.cell? ⟨w.heap.size + 1, 0, none⟩ = some (.int .i64 pu) := hs2.p.cell' 0 rfl
  have d1 : W2.cell? ⟨w.heap.size + 1, 1, none⟩ = some (.int .i64 pw) := hs2.p.cell' 1 rfl
  clear hs2
  by_cases hp : x < y
  · have e1 : decide (x < y) = true := decide_eq_true hp
    have ER : res = true := by rw [← HRES.out, decide_eq_true (.inl hp)]
    subst ER
    go_wp2_with fail
    go_ret
    exact ⟨rfl, HS2.out.bel⟩
  · have e1 : decide (x < y) = false := decide_eq_false hp
    by_cases h0 : x = y
    · subst h0
      clear hp e1
      by_cases hn : 0 ≤ c
      · have e2 : decide (0 ≤ c) = true := decide_eq_true hn
        have ER : res = true := by rw [← HRES.out]; simp [hn]
        subst ER
        clear hn
        go_wp2_with fail
        refine (KX.out _).mono ?_
        rintro e W3 ⟨rfl, b3⟩
        have BF := Lib.hid (HS2.out.below b3).bel
        clear b3
        go_wp2_with fail
        go_ret
        exact ⟨rfl, BF.out⟩
      · have e2 : decide (0 ≤ c) = false := decide_eq_false hn
        have ER : res = false := by rw [← HRES.out]; simp; omega
        subst ER
        clear hn
        go_wp2_with fail
        refine (KX.out _).mono ?_
        rintro e W3 ⟨rfl, b3⟩
        have BF := Lib.hid (HS2.out.below b3).bel
        clear b3
        go_wp2_with fail
        go_ret
        exact ⟨rfl, BF.out⟩
    · have e2 : (x == y) = false := by simpa using h0
      have ER : res = false := by rw [← HRES.out, decide_eq_false (by rintro (h | ⟨h, _⟩); exact hp h; exact h0 h)]
      subst ER
      go_wp2_with fail
      go_ret
      exact ⟨rfl, HS2.out.bel⟩
/-- arc.Inside. -/
def insV (i : It) (pu pw : Int) : Bool := i.full || (if i.dir < 0 then contV (wS i.tU i.cU) (wS i.tW i.cW) (wS i.fU i.cU) (wS i.fW i.cW) pu pw else contV (wS i.fU i.cU) (wS i.fW i.cW) (wS i.tU i.cU) (wS i.tW i.cW) pu pw)
attribute [local go_sem] itA_0 itA_1 itA_2 itA_3 itA_4 itA_5 itA_6 itA_7 itA_8 itA_9 itA_10 itA_11 itA_12 itA_13 itA_14 itA_15 itA_16 itA_17 itA_18 itA_19 itA_20 itA_21
set_option maxRecDepth 100000 in
theorem inside_any (i : It) (pu pw : Int) (h1 : Sm (wS i.fU i.cU)) (h2 : Sm (wS i.fW i.cW)) (h3 : Sm (wS i.tU i.cU)) (h4 : Sm (wS i.tW i.cW)) (h5 : Sm pu) (h6 : Sm pw) (w : World) :
    Calls Tryz.prog 61 #[.agg (itA i), .agg #[.int .i64 pu, .int .i64 pw]] w fun e w' => e = .returned (.bool (insV i pu pw)) ∧ Below w.heap.size w w' := by
  have KS := fun W => spokes_any i W
  have KA := fun W => contains_any (wS i.fU i.cU) (wS i.fW i.cW) (wS i.tU i.cU) (wS i.tW i.cW) pu pw h1 h2 h5 h6 h3 h4 W
  have KB := fun W => contains_any (wS i.tU i.cU) (wS i.tW i.cW) (wS i.fU i.cU) (wS i.fW i.cW) pu pw h3 h4 h5 h6 h1 h2 W
  unfold insV
  obtain ⟨va, hva⟩ : ∃ b, contV (wS i.fU i.cU) (wS i.fW i.cW) (wS i.tU i.cU) (wS i.tW i.cW) pu pw = b := ⟨_, rfl⟩
  obtain ⟨vb, hvb⟩ : ∃ b, contV (wS i.tU i.cU) (wS i.tW i.cW) (wS i.fU i.cU) (wS i.fW i.cW) pu pw = b := ⟨_, rfl⟩
  rw [hva] at KA ⊢
  rw [hvb] at KB ⊢
  clear hva hvb
  generalize wS i.fU i.cU = au at *
  generalize wS i.fW i.cW = aw at *
  generalize wS i.tU i.cU = bu at *
  generalize wS i.tW i.cW = bw at *
  have KS := Lib.hid KS
  have KA := Lib.hid KA
  have KB := Lib.hid KB
  clear h1 h2 h3 h4 h5 h6
  obtain ⟨res, hres⟩ : ∃ r : Bool, (i.full || (if i.dir < 0 then vb else va)) = r := ⟨_, rfl⟩
  have HRES := Lib.hid hres
  rw [hres]
  clear hres
  go_enter Tryz.func61, Tryz.ntmps61
  go_upto_region 1 with fail
  refine wp_told (fun W => ItAt W w.heap.size i ∧ Blk W (w.heap.size + 1) 88 #[.int .i64 pu, .int .i64 pw] ∧ Below w.heap.size w W) ⟨(ItAt.new w i).alloc _, blk_new1 w _ _ _, (by (repeat (first | exact Below.refl _ _ | refine Below.drew ?_ | refine Below.alloc ?_ (by first | exact Nat.le_refl _ | (simp; done) | (simp; omega)) _)))⟩ ?_
  rintro W1 ⟨hi, hp, bel⟩
  have c13 := hi.c13
  have HI := Lib.hid hi
  have HP := Lib.hid hp
  have BEL := Lib.hid bel
  have lt1 := hp.lt
  clear hi hp bel
  obtain ⟨fl, hfl⟩ : ∃ b, i.full = b := ⟨_, rfl⟩
  rw [hfl] at c13 HRES
  cases fl
  rotate_left
  · have ER : res = true := HRES.out.symm
    subst ER
    clear hfl
    go_wp2_with fail
    go_ret
    exact ⟨rfl, BEL.out⟩
  clear hfl
  go_wp2_with ((with_reducible refine go_loadI (.tmp 2) w.heap.size i (by with_unfolding_all rfl) HI.out ?_))
  refine (KS.out _).mono ?_
  rintro e W2 ⟨rfl, b2⟩
  have HI2 := Lib.hid (HI.out.below b2)
  have HP2 := Lib.hid (HP.out.below b2 HP.out.lt)
  have B2 := Lib.hid (BEL.out.trans (b2.mono BEL.out.size))
  have lt2 := HP2.out.lt
  clear b2 HI HP BEL c13
  go_upto_region 4 with fail
  have hN : w.heap.size + 1 < W2.heap.size := lt2
  obtain ⟨N, hNe⟩ : ∃ N, W2.heap.size = N := ⟨_, rfl⟩
  refine wp_told (fun W => ItAt W w.heap.size i ∧ Blk W (w.heap.size + 1) 88 #[.int .i64 pu, .int .i64 pw] ∧ Blk W W2.heap.size 88 #[.int .i64 au, .int .i64 aw] ∧ Blk W (W2.heap.size + 1) 88 #[.int .i64 bu, .int .i64 bw] ∧ Below w.heap.size w W)
    ⟨(HI2.out.alloc _).alloc _, (HP2.out.alloc _).alloc _, (Blk.new W2 _ _).alloc _, blk_new1 W2 _ _ _, (B2.out.alloc (by omega) _).alloc (by simp; omega) _⟩ ?_
  rintro W3 ⟨hi3, hp3, ha3, hb3, bel3⟩
  clear HI2 HP2 B2 lt2
  rw [hNe] at hN ha3 hb3 ⊢
  clear hNe
  have c12 := hi3.c12
  have p0 : W3.cell? ⟨w.heap.size + 1, 0, none⟩ = some (.int .i64 pu) := hp3.cell' 0 rfl
  have p1 : W3.cell? ⟨w.heap.size + 1, 1, none⟩ = some (.int .i64 pw) := hp3.cell' 1 rfl
  have a0 : W3.cell? ⟨N, 0, none⟩ = some (.int .i64 au) := ha3.cell' 0 rfl
  have a1 : W3.cell? ⟨N, 1, none⟩ = some (.int .i64 aw) := ha3.cell' 1 rfl
  have b0 : W3.cell? ⟨N + 1, 0, none⟩ = some (.int .i64 bu) := hb3.cell' 0 rfl
  have b1 : W3.cell? ⟨N + 1, 1, none⟩ = some (.int .i64 bw) := hb3.cell' 1 rfl
  by_cases hd : i.dir < 0
  · have d1 : decide (i.dir < 0) = true := decide_eq_true hd
    have ER : res = vb := by rw [← HRES.out, if_pos hd]; rfl
    subst ER
    clear hd
    have f0 := ha3.frozen 0
    have f1 := ha3.frozen 1
    have g0 := hb3.frozen 0
    have g1 := hb3.frozen 1
    have HP3 := Lib.hid hp3
    have HA3 := Lib.hid ha3
    have HB3 := Lib.hid hb3
    have BEL3 := Lib.hid bel3
    clear hi3 hp3 ha3 hb3 bel3
    go_upto_region 6 with fail
    refine wp_told (fun W => Blk W (w.heap.size + 1) 88 #[.int .i64 pu, .int .i64 pw] ∧ Blk W N 88 #[.int .i64 bu, .int .i64 bw] ∧ Blk W (N + 1) 88 #[.int .i64 au, .int .i64 aw] ∧ Below w.heap.size w W)
      ⟨Blk.skip (Blk.skip (Blk.skip (Blk.skip HP3.out (by show w.heap.size + 1 ≠ N; omega) _) (by show w.heap.size + 1 ≠ N; omega) _) (by show w.heap.size + 1 ≠ N + 1; omega) _) (by show w.heap.size + 1 ≠ N + 1; omega) _,
       Blk.skip (Blk.skip ((HA3.out.put 0 _).put 1 _) (by show N ≠ N + 1; omega) _) (by show N ≠ N + 1; omega) _,
       ((Blk.skip (Blk.skip HB3.out (by show N + 1 ≠ N; omega) _) (by show N + 1 ≠ N; omega) _).put 0 _).put 1 _,
       (((BEL3.out.setCell (by show w.heap.size ≤ N; omega) _).setCell (by show w.heap.size ≤ N; omega) _).setCell (by show w.heap.size ≤ N + 1; omega) _).setCell (by show w.heap.size ≤ N + 1; omega) _⟩ ?_
    clear c12 p0 p1 a0 a1 b0 b1 f0 f1 g0 g1 HP3 HA3 HB3 BEL3
    rintro W4 ⟨hp4, ha4, hb4, bel4⟩
    have p0 : W4.cell? ⟨w.heap.size + 1, 0, none⟩ = some (.int .i64 pu) := hp4.cell' 0 rfl
    have p1 : W4.cell? ⟨w.heap.size + 1, 1, none⟩ = some (.int .i64 pw) := hp4.cell' 1 rfl
    have a0 : W4.cell? ⟨N, 0, none⟩ = some (.int .i64 bu) := ha4.cell' 0 rfl
    have a1 : W4.cell? ⟨N, 1, none⟩ = some (.int .i64 bw) := ha4.cell' 1 rfl
    have b0 : W4.cell? ⟨N + 1, 0, none⟩ = some (.int .i64 au) := hb4.cell' 0 rfl
    have b1 : W4.cell? ⟨N + 1, 1, none⟩ = some (.int .i64 aw) := hb4.cell' 1 rfl
    have BEL4 := Lib.hid bel4
    clear hp4 ha4 hb4 bel4
    go_wp2_with fail
    refine (KB.out _).mono ?_
    rintro e W5 ⟨rfl, b5⟩
    have BF := Lib.hid (BEL4.out.trans (b5.mono BEL4.out.size))
    clear b5
    go_wp2_with fail
    go_ret
    exact ⟨rfl, BF.out⟩
  · have d1 : decide (i.dir < 0) = false := decide_eq_false hd
    have ER : res = va := by rw [← HRES.out, if_neg hd]; rfl
    subst ER
    have BEL4 := Lib.hid bel3
    clear hd hi3 hp3 ha3 hb3 bel3
    go_wp2_with fail
    refine (KA.out _).mono ?_
    rintro e W5 ⟨rfl, b5⟩
    have BF := Lib.hid (BEL4.out.trans (b5.mono BEL4.out.size))
    clear b5
    go_wp2_with fail
    go_ret
    exact ⟨rfl, BF.out⟩
end Go.Proofs.YtefdjdipbnnoaaaGreatDoor
