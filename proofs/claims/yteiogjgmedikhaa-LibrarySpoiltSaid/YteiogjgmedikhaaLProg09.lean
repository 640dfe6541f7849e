/-
  LibraryPrograms.
-/
import Derived.Test.YteiogjgmedikhaaLawP09
namespace Go.Proofs.Yteiogjgmedikhaa
open Go Go.RowKit
set_option linter.unusedVariables false


/-- Where program i begins; n behind the last. -/
def startF (P : List (Int × Nat)) (n i : Nat) : Nat := if i < P.length then (P.getD i (0, 0)).2 else n
structure Prg (P : List (Int × Nat)) (n : Nat) : Prop where
  len : P.length = 3
  zero : startF P n 0 = 0
  mono : ∀ i, i < 3 → startF P n i ≤ startF P n (i + 1)
  num : ∀ i, i < 3 → (P.getD i (0, 0)).1 = i
theorem prg_of {bs : List BlkL} {s : StL} (h : buildB bs = .ok s) (hP : s.progs.map (·.1) = [0, 1, 2]) : Prg s.progs bs.length := by
  obtain ⟨h1, h2, h3, h4⟩ := buildB_ok h
  have hi := progs_inv _ s (Nat.le_refl _) h3
  obtain ⟨r, e, _⟩ := (runB_ok h2 _ s (Nat.le_refl _) h3).progs
  have hlen : s.progs.length = 3 := by have := congrArg List.length hP; simpa using this
  refine ⟨hlen, ?_, fun i h => ?_, fun i h => ?_⟩
  · unfold startF; rw [e]; simp
  · have := hi.first_le i (by omega)
    unfold firstAt endAt at this
    unfold startF
    rw [if_pos (by omega)]
    exact this
  · have := congrArg (fun l => l.getD i 0) hP
    simp only [List.getD, List.getElem?_map] at this ⊢
    rw [List.getElem?_eq_getElem (by omega : i < s.progs.length)] at this ⊢
    simp only [Option.map_some, Option.getD_some] at this ⊢
    rw [this]
    obtain rfl | rfl | rfl : i = 0 ∨ i = 1 ∨ i = 2 := by omega
    all_goals rfl
section
variable {P : List (Int × Nat)} {n : Nat}
theorem Prg.first (h : Prg P n) {i : Nat} (hi : i < 3) : firstAt P i = startF P n i := by unfold firstAt startF; rw [if_pos (by rw [h.len]; exact hi)]
theorem Prg.last (h : Prg P n) {i : Nat} : endAt P n i = startF P n (i + 1) := rfl
theorem Prg.monos (h : Prg P n) {i : Nat} : ∀ d, i + d ≤ 3 → startF P n i ≤ startF P n (i + d)
  | 0, _ => Nat.le_refl _
  | d + 1, hd => Nat.le_trans (h.monos d (by omega)) (h.mono (i + d) (by omega))
theorem Prg.top (h : Prg P n) : startF P n 3 = n := by unfold startF; rw [if_neg (by rw [h.len]; omega)]
theorem Prg.le (h : Prg P n) {i : Nat} (hi : i ≤ 3) : startF P n i ≤ n := by
  have := h.monos (i := i) (3 - i) (by omega)
  rw [show i + (3 - i) = 3 by omega, h.top] at this
  exact this
theorem Prg.find (h : Prg P n) {i : Nat} (hi : i < 3) : findR P i = (i, true) :=
  findR_at (by rw [h.len]; exact hi) (h.num i hi) fun j hj => by rw [h.num j (by omega)]; omega
theorem Prg.find77 (h : Prg P n) : findR P 77 = (0, false) :=
  findR_none fun j hj => by rw [h.len] at hj; rw [h.num j hj]; omega
theorem Prg.of (h : Prg P n) {i : Nat} (hi : i < 3) {x : Int} (h1 : (startF P n i : Int) ≤ x) (h2 : x < startF P n (i + 1)) : ofR P n x = i :=
  ofR_at (by rw [h.len]; exact hi) (by rw [h.first hi]; exact h1) (by rw [h.last]; exact h2) fun j hj => by
    rw [h.last]
    have := h.monos (i := j + 1) (i - (j + 1)) (by omega)
    rw [show j + 1 + (i - (j + 1)) = i by omega] at this
    omega
theorem Prg.ofN (h : Prg P n) : ofR P n n = -1 := ofR_none fun j hj => by
  rw [h.len] at hj
  rw [h.last]
  have := h.monos (i := j + 1) (3 - (j + 1)) (by omega)
  rw [show j + 1 + (3 - (j + 1)) = 3 by omega, h.top] at this
  omega
theorem Prg.ofM (h : Prg P n) : ofR P n (-1) = -1 := ofR_none fun j hj => by omega
end
/-- One library in a variable. -/
structure LawOne (w : World) (r : Nat) (C : Array Value) (bs : List BlkL) (P : List (Int × Nat)) (M : List Int) (n p : Nat) (ab : Option Addr) (cb : Nat) (pl : Nat → Place) (ap : Option Addr) (cp : Nat) (am : Option Addr) (cm : Nat) (W : World) : Prop where
  bel : Below w.heap.size w W
  one : Blk W r 42 C
  l1 : LibN W bs P M n p ab cb pl ap cp am cm
theorem LawOne.under {w : World} {r : Nat} {C : Array Value} {bs : List BlkL} {P : List (Int × Nat)} {M : List Int} {n p : Nat} {ab : Option Addr} {cb : Nat} {pl : Nat → Place} {ap : Option Addr} {cp : Nat} {am : Option Addr} {cm : Nat} {W W' : World}
    (h : LawOne w r C bs P M n p ab cb pl ap cp am cm W) (hb : Below W.heap.size W W') : LawOne w r C bs P M n p ab cb pl ap cp am cm W' :=
  ⟨h.bel.trans (hb.mono h.bel.size), h.one.below hb h.one.lt, h.l1.under hb⟩
/-- The cells of program i. -/
theorem LibN.prog {W : World} {bs : List BlkL} {P : List (Int × Nat)} {M : List Int} {n p : Nat} {ab : Option Addr} {cb : Nat} {pl : Nat → Place} {ap : Option Addr} {cp : Nat} {am : Option Addr} {cm : Nat} (h : LibN W bs P M n p ab cb pl ap cp am cm) (hg : Prg P n) {i : Nat} (hi : i < 3) :
    ∃ b o, ap = some ⟨b, o, none⟩ ∧ W.cell? ⟨b, o + i * 3, none⟩ = some (.int .i64 i) ∧ W.cell? ⟨b, o + i * 3 + 1, none⟩ = some (.int .i64 (startF P n i)) ∧ W.cell? ⟨b, o + i * 3 + 2, none⟩ = some (.int .i64 (startF P n (i + 1))) := by
  obtain ⟨_, b, o, e, hb, hc⟩ := h.lib.progs i (by rw [hg.len]; exact hi)
  have p0 := hc 0 (by decide)
  have p1 := hc 1 (by decide)
  have p2 := hc 2 (by decide)
  simp only [progC, Nat.add_zero] at p0 p1 p2
  rw [hg.num i hi] at p0
  refine ⟨b, o, e, p0, ?_, p2⟩
  have := hg.first hi
  unfold firstAt at this
  rw [this] at p1
  exact p1
theorem LibN.prog' {W : World} {bs : List BlkL} {P : List (Int × Nat)} {M : List Int} {n p : Nat} {ab : Option Addr} {cb : Nat} {pl : Nat → Place} {b o : Nat} {cp : Nat} {am : Option Addr} {cm : Nat} (h : LibN W bs P M n p ab cb pl (some ⟨b, o, none⟩) cp am cm) (hg : Prg P n) {i : Nat} (hi : i < 3) :
    W.cell? ⟨b, o + i * 3, none⟩ = some (.int .i64 i) ∧ W.cell? ⟨b, o + i * 3 + 1, none⟩ = some (.int .i64 (startF P n i)) ∧ W.cell? ⟨b, o + i * 3 + 2, none⟩ = some (.int .i64 (startF P n (i + 1))) := by
  obtain ⟨b', o', e, h1⟩ := h.prog hg hi
  injection e with e
  injection e with e1 e2
  subst e1 e2
  exact h1
set_option maxRecDepth 100000 in
set_option maxHeartbeats 4000000 in
theorem progs_walk (a0 : Option Addr) (len0 cap0 : Nat) (z0 : List Int) (w : World) (w0 : IsRow .i64 w a0 len0 cap0 z0) :
    Calls Try.prog 9 #[.slice a0 len0 cap0] w fun e w' => e = .returned (.bool true) ∧ Below w.heap.size w w' := by
  obtain ⟨T, hT⟩ : ∃ T : Tp, T = ⟨len0, fun i => z0.getD i 0⟩ := ⟨_, rfl⟩
  have HT := Lib.hid hT
  clear hT
  obtain ⟨s, _, _, hpr, hfl⟩ := flow_build T
  have hprg := prg_of hfl hpr
  have hnm : s.mate.length = (flowF T).length := (mates_inv _ s (Nat.le_refl _) (buildB_ok hfl).2.2.1).len
  have hn33 := flow_len T
  generalize hL : flowF T = L at *
  have HL := Lib.hid hL
  have HFL := Lib.hid hfl
  have HNM := Lib.hid hnm
  have HG := Lib.hid hprg
  rename_i q1 q2
  clear hfl hnm hL hprg q1 q2 hpr
  have KL := Lib.hid (light_any w a0 len0 cap0)
  have KA := Lib.hid awake_true
  have W0 := Lib.hid w0
  clear w0
  go_enter Try.func9, Try.ntmps9
  go_wp2_with fail
  refine KL.out.mono ?_
  rintro e w' ⟨rfl, rfl⟩
  by_cases hlen : 120 < len0
  · have dl : decide (len0 ≤ 120) = false := decide_eq_false (by omega)
    go_wp2_with fail
    refine (KA.out _).mono ?_
    rintro e w' ⟨rfl, b9⟩
    go_wp2_with fail
    go_ret
    exact ⟨rfl, b9⟩
  have dl : decide (len0 ≤ 120) = true := decide_eq_true (by omega)
  have BW := Lib.hid (Below.refl w.heap.size w)
  have HLEN := Lib.hid hlen
  clear hlen KL
  go_wp2_with fail
  refine (tape_new _ a0 len0 cap0 z0 (W0.out.below BW.out) (by have := HLEN.out; omega)).mono ?_
  rintro e v1 ⟨rfl, hs, b1⟩
  have bw := BW.out.size
  have hb1 := belowMore BW.out b1
  rw [← HT.out] at hs
  have HS := Lib.hid hs
  have HB1 := Lib.hid hb1
  have HC1 := Lib.hid b1
  clear hs hb1 b1
  go_wp2_with fail
  refine (flow_any v1 _ _ _ _ _ HS.out).mono ?_
  rintro e v2 ⟨fa, fc, fp, rfl, hbs, kx, ht⟩
  rw [HL.out] at hbs ⊢
  have FB := Lib.hid hbs
  have B2 := Lib.hid (ht.below HB1.out bw)
  have LX := Lib.hid (ht.below HC1.out (Nat.le_refl _))
  clear hbs ht HS HB1 HC1 bw
  go_wp2_with fail
  refine (build_any _ fa fc fp v2 FB.out.at).mono ?_
  intro e v3 hp
  unfold LibPost at hp
  rw [HFL.out] at hp
  obtain ⟨ab1, cb1, pl1, ap1, cp1, am1, cm1, rfl, hlib, b3⟩ := hp
  have hln := LibN.of HFL.out hlib
  rw [HNM.out]
  have LN1 := Lib.hid hln
  have LB1 := Lib.hid b3
  clear hlib b3 hln
  unfold libV
  go_upto_region 4 with fail
  refine on_told (fun W => LawOne w v3.heap.size #[.slice ab1 L.length cb1, .slice ap1 s.progs.length cp1, .slice am1 L.length cm1] L s.progs s.mate L.length s.progs.length ab1 cb1 pl1 ap1 cp1 am1 cm1 W) ⟨(belowMore B2.out LB1.out).alloc (belowMore B2.out LB1.out).size _, Blk.new v3 _ _, LN1.out.under ((Below.refl v3.heap.size v3).alloc (Nat.le_refl _) _)⟩ ?_
  intro W4 h4
  have K4 := Lib.hid h4
  clear h4 LN1 LB1 B2 FB LX
  go_wp2_with fail
  refine (KA.out _).mono ?_
  rintro e W5 ⟨rfl, b9⟩
  have K5 := Lib.hid (K4.out.under b9)
  clear b9
  have hp3 : ((s.progs.length : Int) != 3) = false := by rw [HG.out.len]; rfl
  have e0 := K5.out.one.cell' 0 rfl
  have e1 := K5.out.one.cell' 1 rfl
  have e2 := K5.out.one.cell' 2 rfl
  go_wp2_with fail
  clear e0 e1 e2
  clear hp3
  obtain ⟨pb, po, rfl, _⟩ := K5.out.l1.prog HG.out (i := 0) (by omega)
  go_loopw [6, 7] (fun t6 t7 wr => ∃ i : Nat, i ≤ 3 ∧ t7 = .int .i64 i ∧ t6 = .int .i64 (startF s.progs L.length i) ∧ LawOne w v3.heap.size #[.slice ab1 L.length cb1, .slice (some ⟨pb, po, none⟩) s.progs.length cp1, .slice am1 L.length cm1] L s.progs s.mate L.length s.progs.length ab1 cb1 pl1 (some ⟨pb, po, none⟩) cp1 am1 cm1 wr) (fun _ sv _ => 3 - (intOf sv).toNat)
  case atStart => exact ⟨0, by omega, rfl, by rw [HG.out.zero]; rfl, K5.out⟩
  case round =>
    obtain ⟨i, hi, rfl, rfl, hat⟩ := hrel
    rename World => W8
    have K8 := Lib.hid hat
    clear hat K5
    by_cases hlt : i < 3
    · have i0 : (0 : Int) ≤ (i : Int) := by omega
      have i1 : (i : Int) < (s.progs.length : Int) := by rw [HG.out.len]; omega
      have d1 : decide (i < s.progs.length) = true := by rw [HG.out.len]; exact decide_eq_true hlt
      have hmo := HG.out.mono i hlt
      have HLT := Lib.hid hlt
      have hgn := HG.out.le (i := i + 1) (by omega)
      obtain ⟨p0, p1, p2⟩ := K8.out.l1.prog' HG.out hlt
      have HOF := Lib.hid (fun x => HG.out.of hlt (x := x))
      have KF := Lib.hid (fun W (h : LawOne w v3.heap.size #[.slice ab1 L.length cb1, .slice (some ⟨pb, po, none⟩) s.progs.length cp1, .slice am1 L.length cm1] L s.progs s.mate L.length s.progs.length ab1 cb1 pl1 (some ⟨pb, po, none⟩) cp1 am1 cm1 W) => by have := h.l1.find i; rw [HG.out.find hlt] at this; exact this)
      have KO := Lib.hid (fun x W (h : LawOne w v3.heap.size #[.slice ab1 L.length cb1, .slice (some ⟨pb, po, none⟩) s.progs.length cp1, .slice am1 L.length cm1] L s.progs s.mate L.length s.progs.length ab1 cb1 pl1 (some ⟨pb, po, none⟩) cp1 am1 cm1 W) => h.l1.of' x)
      generalize startF s.progs L.length i = f at *
      generalize hg : startF s.progs L.length (i + 1) = g at *
      have HGG := Lib.hid hg
      clear hg
      have e0 := K8.out.one.cell' 0 rfl
      have e1 := K8.out.one.cell' 1 rfl
      have e2 := K8.out.one.cell' 2 rfl
      have K9 := Lib.hid (K8.out.under ((Below.refl W8.heap.size W8).alloc (Nat.le_refl _) (.cells #[.int .i64 i, .int .i64 f, .int .i64 g] 55)))
      have R9 := Lib.hid (Blk.new W8 55 #[.int .i64 i, .int .i64 f, .int .i64 g])
      have rl := K8.out.one.lt
      go_wp2_with fail
      clear e0 e1 e2 p0 p1 p2
      refine (KF.out _ K9.out).mono ?_
      rintro e W10 ⟨rfl, b10⟩
      have K10 := Lib.hid (K9.out.under b10)
      have R10 := Lib.hid (R9.out.below b10 R9.out.lt)
      have r0 := R10.out.cell 0
      have r1 := R10.out.cell 1
      have r2 := R10.out.cell 2
      have dgf : decide (g < f) = false := decide_eq_false (by omega)
      have dgf' : decide ((g : Int) < (f : Int)) = false := decide_eq_false (by omega)
      clear b10 K9 R9 KF K8
      go_wp2_with fail
      clear r0 r1 r2
      go_loopw [6] (fun t6 wr => ∃ j : Nat, f ≤ j ∧ j ≤ g ∧ t6 = .int .i64 j ∧ LawOne w v3.heap.size #[.slice ab1 L.length cb1, .slice (some ⟨pb, po, none⟩) s.progs.length cp1, .slice am1 L.length cm1] L s.progs s.mate L.length s.progs.length ab1 cb1 pl1 (some ⟨pb, po, none⟩) cp1 am1 cm1 wr ∧ Blk wr W8.heap.size 55 #[.int .i64 i, .int .i64 f, .int .i64 g]) (fun sv _ => g - (intOf sv).toNat)
      case atStart => exact ⟨f, by omega, hmo, rfl, K10.out, R10.out⟩
      case round =>
        obtain ⟨j, hj1, hj2, rfl, hat, hbk⟩ := hrel
        rename World => W11
        have K11 := Lib.hid hat
        have R11 := Lib.hid hbk
        have r2 := hbk.cell 2
        clear hat hbk K10 R10
        by_cases hjg : j < g
        · have d2 : decide (j < g) = true := decide_eq_true hjg
          have d2' : decide ((j : Int) < (g : Int)) = true := decide_eq_true (by omega)
          have KO1 := Lib.hid (by have := KO.out j W11 K11.out; rw [HOF.out j (by omega) (by omega)] at this; exact this)
          have e0 := K11.out.one.cell' 0 rfl
          have e1 := K11.out.one.cell' 1 rfl
          have e2 := K11.out.one.cell' 2 rfl
          go_wp2_with fail
          clear e0 e1 e2 r2
          refine KO1.out.mono ?_
          rintro e W12 ⟨rfl, b12⟩
          have K12 := Lib.hid (K11.out.under b12)
          have R12 := Lib.hid (R11.out.below b12 R11.out.lt)
          clear b12 K11 R11 KO1
          go_wp2_with fail
          go_roundw
          case rel => exact ⟨j + 1, by omega, by omega, by go_num, K12.out, R12.out⟩
          case measure => simp [intOf]; omega
        · have d2 : decide (j < g) = false := decide_eq_false hjg
          have d2' : decide ((j : Int) < (g : Int)) = false := decide_eq_false (by omega)
          obtain rfl : j = g := by omega
          go_wp2_with fail
          go_roundw
          case rel => exact ⟨i + 1, HLT.out, by go_num, by rw [HGG.out], K11.out⟩
          case measure => have := HLT.out; simp [intOf]; omega
    · obtain rfl : i = 3 := by omega
      have d1 : decide (3 < s.progs.length) = false := by rw [HG.out.len]; rfl
      have d1' : decide ((3 : Int) < (s.progs.length : Int)) = false := by rw [HG.out.len]; rfl
      have KF := Lib.hid (by have := K8.out.l1.find 77; rw [HG.out.find77] at this; exact this)
      have KO := Lib.hid (fun W (h : LawOne w v3.heap.size #[.slice ab1 L.length cb1, .slice (some ⟨pb, po, none⟩) s.progs.length cp1, .slice am1 L.length cm1] L s.progs s.mate L.length s.progs.length ab1 cb1 pl1 (some ⟨pb, po, none⟩) cp1 am1 cm1 W) => by have := h.l1.of' L.length; rw [HG.out.ofN] at this; exact this)
      have KP := Lib.hid (fun W (h : LawOne w v3.heap.size #[.slice ab1 L.length cb1, .slice (some ⟨pb, po, none⟩) s.progs.length cp1, .slice am1 L.length cm1] L s.progs s.mate L.length s.progs.length ab1 cb1 pl1 (some ⟨pb, po, none⟩) cp1 am1 cm1 W) => by have := h.l1.of' (-1); rw [HG.out.ofM] at this; exact this)
      rw [HG.out.top]
      have e0 := K8.out.one.cell' 0 rfl
      have e1 := K8.out.one.cell' 1 rfl
      have e2 := K8.out.one.cell' 2 rfl
      go_wp2_with fail
      clear e0 e1 e2
      refine (KF.out).mono ?_
      rintro e W9 ⟨rfl, b9⟩
      have K9 := Lib.hid (K8.out.under b9)
      clear b9
      have e0 := K9.out.one.cell' 0 rfl
      have e1 := K9.out.one.cell' 1 rfl
      have e2 := K9.out.one.cell' 2 rfl
      go_wp2_with fail
      clear e0 e1 e2
      refine (KO.out _ K9.out).mono ?_
      rintro e W10 ⟨rfl, b9⟩
      have K10 := Lib.hid (K9.out.under b9)
      clear b9
      have e0 := K10.out.one.cell' 0 rfl
      have e1 := K10.out.one.cell' 1 rfl
      have e2 := K10.out.one.cell' 2 rfl
      go_wp2_with fail
      clear e0 e1 e2
      refine (KP.out _ K10.out).mono ?_
      rintro e W11 ⟨rfl, b9⟩
      have K11 := Lib.hid (K10.out.under b9)
      clear b9
      go_wp2_with fail
      go_ret
      exact ⟨rfl, K11.out.bel⟩
end Go.Proofs.Yteiogjgmedikhaa
