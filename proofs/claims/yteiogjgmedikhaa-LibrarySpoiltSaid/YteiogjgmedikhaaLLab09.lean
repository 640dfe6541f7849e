/-
  LibraryLabels.
-/
import Derived.Test.YteiogjgmedikhaaLProg09
namespace Go.Proofs.Yteiogjgmedikhaa
open Go Go.RowKit
set_option linter.unusedVariables false


/-! ### Plain -/
theorem turnF_more (T : Tp) (b : BlkL) (k : Nat) (s : FS) : s.l.length ≤ (turnF T b k s).l.length := by
  unfold turnF
  repeat' split
  all_goals simp
theorem roundsF_more (T : Tp) (s : FS) : ∀ n : Nat, s.l.length ≤ (roundsF T n s).l.length
  | 0 => Nat.le_refl _
  | n + 1 => by
    rw [roundsF_succ]
    have h := roundsF_more T s n
    have := turnF_more T (labB (blockF T (roundsF T n s).k).1 (labOf T (blockF T (roundsF T n s).k).2 ((roundsF T n s).lab + 1))) (nextF T (blockF T (roundsF T n s).k).2 2).2 ⟨(roundsF T n s).l, (roundsF T n s).lab + 1, (roundsF T n s).d, (roundsF T n s).k⟩
    unfold roundF
    exact Nat.le_trans h this
theorem progF_pos (T : Tp) (p : Nat) (s : FS) (hp : p ≠ 0) : 0 < (progF T p s).l.length := by
  have h := roundsF_more T ⟨beginF p s.l, s.lab, 0, (rangeF T s.k 1 7).2⟩ (rangeF T s.k 1 7).1.toNat
  have h1 : 0 < (beginF p s.l).length := by unfold beginF; rw [if_neg hp]; simp
  unfold progF
  simp only [List.length_append] at h ⊢
  exact Nat.lt_of_lt_of_le (Nat.lt_of_lt_of_le h1 h) (Nat.le_add_right _ _)
theorem flow_pos (T : Tp) : 0 < (flowF T).length := progF_pos T 2 _ (by decide)
section
variable {P : List (Int × Nat)} {n : Nat}
theorem Prg.some (h : Prg P n) {i : Nat} (hi : i < n) : ∃ q, q < 3 ∧ startF P n q ≤ i ∧ i < startF P n (q + 1) ∧ ofR P n i = q := by
  have h0 := h.zero
  have h3 := h.top
  by_cases h1 : i < startF P n 1
  · exact ⟨0, by omega, by omega, h1, h.of (by omega) (by omega) (by simpa using (by omega : (i : Int) < startF P n 1))⟩
  by_cases h2 : i < startF P n 2
  · exact ⟨1, by omega, by omega, h2, h.of (by omega) (by omega) (by simpa using (by omega : (i : Int) < startF P n 2))⟩
  · exact ⟨2, by omega, by omega, by show i < startF P n 3; omega, h.of (by omega) (by omega) (by simpa using (by omega : (i : Int) < startF P n 3))⟩
theorem Prg.other (h : Prg P n) {i p q : Nat} (hp : p < 3) (hq : q < 3) (h1 : startF P n q ≤ i) (h2 : i < startF P n (q + 1)) (hne : p ≠ q) : ¬ (startF P n p ≤ i ∧ i < startF P n (p + 1)) := by
  rintro ⟨h3, h4⟩
  rcases Nat.lt_or_gt_of_ne hne with hlt | hgt
  · have := h.monos (i := p + 1) (q - (p + 1)) (by omega)
    rw [show p + 1 + (q - (p + 1)) = q by omega] at this
    omega
  · have := h.monos (i := q + 1) (p - (q + 1)) (by omega)
    rw [show q + 1 + (p - (q + 1)) = p by omega] at this
    omega
end
theorem lab_uniq (T : Tp) {i j : Nat} (hi : i < (flowF T).length) (hj : j < (flowF T).length) (h0 : labAt (flowF T) i ≠ 0) (h : labAt (flowF T) j = labAt (flowF T) i) : j = i := by
  have ei := List.getElem?_eq_getElem hi
  have ej := List.getElem?_eq_getElem hj
  have li : labAt (flowF T) i = (flowF T)[i].label := by unfold labAt; rw [ei]
  have lj : labAt (flowF T) j = (flowF T)[j].label := by unfold labAt; rw [ej]
  rcases Nat.lt_trichotomy i j with hlt | e | hgt
  · have := flow_asc T i j _ _ hlt ei ej (by omega); omega
  · exact e.symm
  · have := flow_asc T j i _ _ hgt ej ei (by omega); omega
theorem lab_pos (T : Tp) {i : Nat} (hi : i < (flowF T).length) (h0 : labAt (flowF T) i ≠ 0) : 1 ≤ labAt (flowF T) i := by
  have ei := List.getElem?_eq_getElem hi
  have li : labAt (flowF T) i = (flowF T)[i].label := by unfold labAt; rw [ei]
  have := flow_labs T i _ ei
  omega
/-- What Label returns. -/
theorem lab_look (T : Tp) {P : List (Int × Nat)} (hg : Prg P (flowF T).length) {i p q : Nat} (hi : i < (flowF T).length) (h0 : labAt (flowF T) i ≠ 0) (hp : p < 3) (hq : q < 3) (h1 : startF P (flowF T).length q ≤ i) (h2 : i < startF P (flowF T).length (q + 1)) :
    lookR (flowF T) P p (labAt (flowF T) i) = if p = q then (i, true) else (0, false) := by
  have hl := lab_pos T hi h0
  unfold lookR
  rw [if_neg (by rw [hg.len]; omega), Int.toNat_natCast, hg.first hp, hg.last]
  by_cases e : p = q
  · subst e
    rw [if_pos rfl]
    exact labR_at h2 h1 rfl fun j h3 h4 h5 => by
      have := lab_uniq T hi (j := j) (by omega) h0 h5; omega
  · rw [if_neg e]
    have hno := hg.other hp hq h1 h2 e
    refine labR_none fun j h3 h4 h5 => hno ?_
    have hle := hg.le (i := p + 1) (by omega)
    have := lab_uniq T hi (j := j) (by omega) h0 h5
    omega
/-- The label of block i. -/
theorem LibN.lab {W : World} {bs : List BlkL} {P : List (Int × Nat)} {M : List Int} {n p : Nat} {b o : Nat} {cb : Nat} {pl : Nat → Place} {ap : Option Addr} {cp : Nat} {am : Option Addr} {cm : Nat} (h : LibN W bs P M n p (some ⟨b, o, none⟩) cb pl ap cp am cm) {i : Nat} (hi : i < n) :
    W.cell? ⟨b, o + i * 11 + 1, none⟩ = some (.int .i64 (labAt bs i)) := by
  obtain ⟨_, b', o', e, hb, hc⟩ := h.lib.blks.tab i (by rw [h.nb]; exact hi)
  injection e with e
  injection e with e1 e2
  subst e1 e2
  have c1 := hc 1 (by decide)
  have hbb := List.getElem?_eq_getElem (show i < bs.length by rw [h.nb]; exact hi)
  rw [blksC_at hbb] at c1
  rw [show labAt bs i = (bs[i]'(by rw [h.nb]; exact hi)).label by unfold labAt; rw [hbb]]
  exact c1
set_option maxRecDepth 100000 in
set_option maxHeartbeats 4000000 in
theorem labels_walk (a0 : Option Addr) (len0 cap0 : Nat) (z0 : List Int) (w : World) (w0 : IsRow .i64 w a0 len0 cap0 z0) :
    Calls Try.prog 10 #[.slice a0 len0 cap0] w fun e w' => e = .returned (.bool true) ∧ Below w.heap.size w w' := by
  obtain ⟨T, hT⟩ : ∃ T : Tp, T = ⟨len0, fun i => z0.getD i 0⟩ := ⟨_, rfl⟩
  have HT := Lib.hid hT
  clear hT
  obtain ⟨s, _, _, hpr, hfl⟩ := flow_build T
  have hprg := prg_of hfl hpr
  have hnm : s.mate.length = (flowF T).length := (mates_inv _ s (Nat.le_refl _) (buildB_ok hfl).2.2.1).len
  have hn33 := flow_len T
  have hpos := flow_pos T
  have hlook := fun i p q => lab_look T hprg (i := i) (p := p) (q := q)
  generalize hL : flowF T = L at *
  have HL := Lib.hid hL
  have HFL := Lib.hid hfl
  have HNM := Lib.hid hnm
  have HG := Lib.hid hprg
  have HLK := Lib.hid hlook
  rename_i q1 q2
  clear hfl hnm hL hprg q1 q2 hpr hlook
  have KL := Lib.hid (light_any w a0 len0 cap0)
  have KA := Lib.hid awake_true
  have W0 := Lib.hid w0
  clear w0
  go_enter Try.func10, Try.ntmps10
  go_wp2_with fail
  refine KL.out.mono ?_
  rintro e w' ⟨rfl, rfl⟩
  by_cases hlen : 120 < len0
  · have dl : decide (len0 ≤ 120) = false := decide_eq_false (by omega)
    go_wp2_with fail
    refine (KA.out _).mono ?_
    rintro e w' ⟨rfl, b9⟩
    go_wp2_with fail
    go_ret
    exact ⟨rfl, b9⟩
  have dl : decide (len0 ≤ 120) = true := decide_eq_true (by omega)
  have BW := Lib.hid (Below.refl w.heap.size w)
  have HLEN := Lib.hid hlen
  clear hlen KL
  go_wp2_with fail
  refine (tape_new _ a0 len0 cap0 z0 (W0.out.below BW.out) (by have := HLEN.out; omega)).mono ?_
  rintro e v1 ⟨rfl, hs, b1⟩
  have bw := BW.out.size
  have hb1 := belowMore BW.out b1
  rw [← HT.out] at hs
  have HS := Lib.hid hs
  have HB1 := Lib.hid hb1
  have HC1 := Lib.hid b1
  clear hs hb1 b1
  go_wp2_with fail
  refine (flow_any v1 _ _ _ _ _ HS.out).mono ?_
  rintro e v2 ⟨fa, fc, fp, rfl, hbs, kx, ht⟩
  rw [HL.out] at hbs ⊢
  have FB := Lib.hid hbs
  have B2 := Lib.hid (ht.below HB1.out bw)
  have LX := Lib.hid (ht.below HC1.out (Nat.le_refl _))
  clear hbs ht HS HB1 HC1 bw
  go_wp2_with fail
  refine (build_any _ fa fc fp v2 FB.out.at).mono ?_
  intro e v3 hp
  unfold LibPost at hp
  rw [HFL.out] at hp
  obtain ⟨ab1, cb1, pl1, ap1, cp1, am1, cm1, rfl, hlib, b3⟩ := hp
  have hln := LibN.of HFL.out hlib
  rw [HNM.out]
  have LN1 := Lib.hid hln
  have LB1 := Lib.hid b3
  clear hlib b3 hln
  unfold libV
  obtain ⟨_, sb, so, rfl, _, _⟩ := LN1.out.lib.blks.tab 0 hpos
  go_upto_region 4 with fail
  refine on_told (fun W => LawOne w v3.heap.size #[.slice (some ⟨sb, so, none⟩) L.length cb1, .slice ap1 s.progs.length cp1, .slice am1 L.length cm1] L s.progs s.mate L.length s.progs.length (some ⟨sb, so, none⟩) cb1 pl1 ap1 cp1 am1 cm1 W) ⟨(belowMore B2.out LB1.out).alloc (belowMore B2.out LB1.out).size _, Blk.new v3 _ _, LN1.out.under ((Below.refl v3.heap.size v3).alloc (Nat.le_refl _) _)⟩ ?_
  intro W4 h4
  have K4 := Lib.hid h4
  clear h4 LN1 LB1 B2 FB LX
  go_wp2_with fail
  refine (KA.out _).mono ?_
  rintro e W5 ⟨rfl, b9⟩
  have K5 := Lib.hid (K4.out.under b9)
  clear b9
  have hp3 : ((L.length : Int) != L.length) = false := by simp
  have e0 := K5.out.one.cell' 0 rfl
  have e1 := K5.out.one.cell' 1 rfl
  have e2 := K5.out.one.cell' 2 rfl
  go_wp2_with fail
  clear e0 e1 e2
  clear hp3
  go_loopw [6] (fun t6 wr => ∃ i : Nat, i ≤ L.length ∧ t6 = .int .i64 i ∧ LawOne w v3.heap.size #[.slice (some ⟨sb, so, none⟩) L.length cb1, .slice ap1 s.progs.length cp1, .slice am1 L.length cm1] L s.progs s.mate L.length s.progs.length (some ⟨sb, so, none⟩) cb1 pl1 ap1 cp1 am1 cm1 wr) (fun sv _ => L.length - (intOf sv).toNat)
  case atStart => exact ⟨0, by omega, rfl, K5.out⟩
  case round =>
    obtain ⟨i, hi, rfl, hat⟩ := hrel
    rename World => W8
    have K8 := Lib.hid hat
    clear hat K5
    by_cases hlt : i < L.length
    · have i0 : (0 : Int) ≤ (i : Int) := by omega
      have i1 : (i : Int) < (L.length : Int) := by omega
      have d1 : decide (i < L.length) = true := decide_eq_true hlt
      have l1 := K8.out.l1.lab hlt
      have HLK1 := Lib.hid (fun p q => HLK.out i p q hlt)
      have KB := Lib.hid (fun W (h : LawOne w v3.heap.size #[.slice (some ⟨sb, so, none⟩) L.length cb1, .slice ap1 s.progs.length cp1, .slice am1 L.length cm1] L s.progs s.mate L.length s.progs.length (some ⟨sb, so, none⟩) cb1 pl1 ap1 cp1 am1 cm1 W) => h.l1.lab hlt)
      have KL := Lib.hid (fun (p : Nat) W (h : LawOne w v3.heap.size #[.slice (some ⟨sb, so, none⟩) L.length cb1, .slice ap1 s.progs.length cp1, .slice am1 L.length cm1] L s.progs s.mate L.length s.progs.length (some ⟨sb, so, none⟩) cb1 pl1 ap1 cp1 am1 cm1 W) => h.l1.label p (labAt L i))
      have HLT := Lib.hid hlt
      generalize labAt L i = la at *
      by_cases hla : la = 0
      · subst hla
        have e0 := K8.out.one.cell' 0 rfl
        go_wp2_with fail
        go_roundw
        case rel => exact ⟨i + 1, by omega, by go_num, K8.out⟩
        case measure => simp [intOf]; omega
      · have f0 : (la == 0) = false := by simpa using hla
        have e0 := K8.out.one.cell' 0 rfl
        obtain ⟨q, hq, hs1, hs2, hof⟩ := HG.out.some hlt
        have HS := Lib.hid (And.intro hq (And.intro hs1 (And.intro hs2 (And.intro hof hla))))
        clear hq hs1 hs2 hof hla
        go_wp2_with fail
        clear e0 l1
        go_loopw [7] (fun t7 wr => ∃ p : Nat, p ≤ 3 ∧ t7 = .int .i64 p ∧ LawOne w v3.heap.size #[.slice (some ⟨sb, so, none⟩) L.length cb1, .slice ap1 s.progs.length cp1, .slice am1 L.length cm1] L s.progs s.mate L.length s.progs.length (some ⟨sb, so, none⟩) cb1 pl1 ap1 cp1 am1 cm1 wr) (fun sv _ => 3 - (intOf sv).toNat)
        case atStart => exact ⟨0, by omega, rfl, K8.out⟩
        case round =>
          obtain ⟨p, hp, rfl, hat⟩ := hrel
          rename World => W9
          have K9 := Lib.hid hat
          clear hat K8
          have e1 := K9.out.one.cell' 1 rfl
          by_cases hp3 : p < 3
          · have d2 : decide (p < s.progs.length) = true := by rw [HG.out.len]; exact decide_eq_true hp3
            have hlk := HLK1.out p q HS.out.2.2.2.2 hp3 HS.out.1 HS.out.2.1 HS.out.2.2.1
            have KL1 := Lib.hid (fun W (h : LawOne w v3.heap.size #[.slice (some ⟨sb, so, none⟩) L.length cb1, .slice ap1 s.progs.length cp1, .slice am1 L.length cm1] L s.progs s.mate L.length s.progs.length (some ⟨sb, so, none⟩) cb1 pl1 ap1 cp1 am1 cm1 W) => by have := KL.out p W h; rw [hlk] at this; exact this)
            have KO1 := Lib.hid (fun W (h : LawOne w v3.heap.size #[.slice (some ⟨sb, so, none⟩) L.length cb1, .slice ap1 s.progs.length cp1, .slice am1 L.length cm1] L s.progs s.mate L.length s.progs.length (some ⟨sb, so, none⟩) cb1 pl1 ap1 cp1 am1 cm1 W) => by have := h.l1.of' i; rw [HS.out.2.2.2.1] at this; exact this)
            clear hlk
            go_wp2_with fail
            clear e1
            refine region_L (fun W => LawOne w v3.heap.size #[.slice (some ⟨sb, so, none⟩) L.length cb1, .slice ap1 s.progs.length cp1, .slice am1 L.length cm1] L s.progs s.mate L.length s.progs.length (some ⟨sb, so, none⟩) cb1 pl1 ap1 cp1 am1 cm1 W) [] (by kernel_rfl) ?_
            have hS0 := K9.out.under ((Below.refl W9.heap.size W9).drew)
            refine take_L 0 (v := .agg #[.slice (some ⟨sb, so, none⟩) L.length cb1, .slice ap1 s.progs.length cp1, .slice am1 L.length cm1]) rfl (by kernel_rfl) (by kernel_rfl) (by kernel_rfl) (by kernel_rfl) (fun _ _ _ h => h) (by kernel_rfl) (fun W' hW' => by have e0 := hW'.one.cell' 0 rfl; have e1 := hW'.one.cell' 1 rfl; have e2 := hW'.one.cell' 2 rfl; clear hW'; go_simp) hS0 ?_
            refine take_P 1 (v := .int .i64 p) rfl (by kernel_rfl) (by kernel_rfl) (by kernel_rfl) (fun _ _ _ h => h) (by kernel_rfl) (fun W' => by go_simp) ?_
            refine take_P 2 (v := .pointer (some ⟨v3.heap.size, 0, none⟩)) rfl (by kernel_rfl) (by kernel_rfl) (by kernel_rfl) (fun _ _ _ h => h) (by kernel_rfl) (fun W' => by go_simp) ?_
            refine take_L 3 (v := .slice (some ⟨sb, so, none⟩) L.length cb1) rfl (by kernel_rfl) (by kernel_rfl) (by kernel_rfl) (by kernel_rfl) (fun _ _ _ h => h) (by kernel_rfl) (fun W' hW' => by have e0 := hW'.one.cell' 0 rfl; clear hW'; go_simp) hS0 ?_
            refine take_P 4 (v := .int .i64 i) rfl (by kernel_rfl) (by kernel_rfl) (by kernel_rfl) (fun _ _ _ h => h) (by kernel_rfl) (fun W' => by go_simp) ?_
            refine take_P 5 (v := .pointer (some ⟨sb, so + i * 11, none⟩)) rfl (by kernel_rfl) (by kernel_rfl) (by kernel_rfl) (fun _ _ _ h => h) (by kernel_rfl) (fun W' => by go_simp) ?_
            refine take_P 6 (v := .pointer (some ⟨sb, so + i * 11 + 1, none⟩)) rfl (by kernel_rfl) (by kernel_rfl) (by kernel_rfl) (fun _ _ _ h => h) (by kernel_rfl) (fun W' => by go_simp) ?_
            refine take_L 7 (v := .int .i64 la) rfl (by kernel_rfl) (by kernel_rfl) (by kernel_rfl) (by kernel_rfl) (fun _ _ _ h => h) (by kernel_rfl) (fun W' hW' => by have e0 := KB.out _ hW'; clear hW'; go_simp) hS0 ?_
            refine one_L 8 (by kernel_rfl) rfl (by kernel_rfl) fun K8 hK8 => ?_
            have HK8 := Lib.hid hK8
            clear hK8
            go_simp
            refine (KL1.out _ hS0).mono ?_
            by_cases hpq : p = q
            · subst hpq
              rw [if_pos rfl]
              rintro e W10 ⟨rfl, b10⟩
              have K10 := Lib.hid (hS0.under b10)
              refine HK8.out _ _ (fun _ _ => K10.out) ?_
              refine take_P 9 (v := .tuple #[.int .i64 (i : Nat), .bool true]) rfl (by kernel_rfl) (by kernel_rfl) (by kernel_rfl) (fun _ _ _ h => h) (by kernel_rfl) (fun W' => by go_simp) ?_
              refine take_P 10 (v := .int .i64 (i : Nat)) rfl (by kernel_rfl) (by kernel_rfl) (by kernel_rfl) (fun _ _ _ h => h) (by kernel_rfl) (fun W' => by go_simp) ?_
              refine take_P 11 (v := .bool true) rfl (by kernel_rfl) (by kernel_rfl) (by kernel_rfl) (fun _ _ _ h => h) (by kernel_rfl) (fun W' => by go_simp) ?_
              refine take_P 12 (v := .int .i64 (i : Nat)) rfl (by kernel_rfl) (by kernel_rfl) (by kernel_rfl) (fun _ _ _ h => h) (by kernel_rfl) (fun W' => by go_simp) ?_
              refine take_P 13 (v := .bool true) rfl (by kernel_rfl) (by kernel_rfl) (by kernel_rfl) (fun _ _ _ h => h) (by kernel_rfl) (fun W' => by go_simp) ?_
              refine done_L (by kernel_rfl) ?_ _
              clear HK8 hS0 K9 KL1
              go_simp
              have e9 : ((p : Int) == p) = true := by simp
              have e8 : ((i : Int) != i) = false := by simp
              have e0 := K10.out.one.cell' 0 rfl
              have e1 := K10.out.one.cell' 1 rfl
              have e2 := K10.out.one.cell' 2 rfl
              go_wp2_with fail
              clear e0 e1 e2
              refine (KO1.out _ K10.out).mono ?_
              rintro e W11 ⟨rfl, b11⟩
              have K11 := Lib.hid (K10.out.under b11)
              clear b11 K10
              go_wp2_with fail
              go_roundw
              case rel => exact ⟨p + 1, by omega, by go_num, K11.out⟩
              case measure => simp [intOf]; omega
            · rw [if_neg hpq]
              rintro e W10 ⟨rfl, b10⟩
              have K10 := Lib.hid (hS0.under b10)
              refine HK8.out _ _ (fun _ _ => K10.out) ?_
              refine take_P 9 (v := .tuple #[.int .i64 (0 : Nat), .bool false]) rfl (by kernel_rfl) (by kernel_rfl) (by kernel_rfl) (fun _ _ _ h => h) (by kernel_rfl) (fun W' => by go_simp) ?_
              refine take_P 10 (v := .int .i64 (0 : Nat)) rfl (by kernel_rfl) (by kernel_rfl) (by kernel_rfl) (fun _ _ _ h => h) (by kernel_rfl) (fun W' => by go_simp) ?_
              refine take_P 11 (v := .bool false) rfl (by kernel_rfl) (by kernel_rfl) (by kernel_rfl) (fun _ _ _ h => h) (by kernel_rfl) (fun W' => by go_simp) ?_
              refine take_P 12 (v := .int .i64 (0 : Nat)) rfl (by kernel_rfl) (by kernel_rfl) (by kernel_rfl) (fun _ _ _ h => h) (by kernel_rfl) (fun W' => by go_simp) ?_
              refine take_P 13 (v := .bool false) rfl (by kernel_rfl) (by kernel_rfl) (by kernel_rfl) (fun _ _ _ h => h) (by kernel_rfl) (fun W' => by go_simp) ?_
              refine done_L (by kernel_rfl) ?_ _
              clear HK8 hS0 K9 KL1
              go_simp
              have e9 : ((p : Int) == q) = false := by simp; omega
              have e0 := K10.out.one.cell' 0 rfl
              have e1 := K10.out.one.cell' 1 rfl
              have e2 := K10.out.one.cell' 2 rfl
              go_wp2_with fail
              clear e0 e1 e2
              refine (KO1.out _ K10.out).mono ?_
              rintro e W11 ⟨rfl, b11⟩
              have K11 := Lib.hid (K10.out.under b11)
              clear b11 K10
              go_wp2_with fail
              go_roundw
              case rel => exact ⟨p + 1, by omega, by go_num, K11.out⟩
              case measure => simp [intOf]; omega
          · obtain rfl : p = 3 := by omega
            have d2 : decide (3 < s.progs.length) = false := by rw [HG.out.len]; rfl
            have d2' : decide ((3 : Int) < (s.progs.length : Int)) = false := by rw [HG.out.len]; rfl
            go_wp2_with fail
            go_roundw
            case rel => exact ⟨i + 1, HLT.out, by go_num, K9.out⟩
            case measure => have := HLT.out; simp [intOf]; omega
    · obtain rfl : i = L.length := by omega
      have d1 : decide (L.length < L.length) = false := by simp
      have KL := Lib.hid (show lookR L s.progs 0 0 = (0, false) from if_pos (.inl (by decide)))
      have KL1 := Lib.hid (by have := K8.out.l1.label 0 0; rw [KL.out] at this; exact this)
      have e0 := K8.out.one.cell' 0 rfl
      have e1 := K8.out.one.cell' 1 rfl
      have e2 := K8.out.one.cell' 2 rfl
      go_wp2_with fail
      clear e0 e1 e2
      refine (KL1.out).mono ?_
      rintro e W9 ⟨rfl, b9⟩
      have K9 := Lib.hid (K8.out.under b9)
      clear b9
      go_wp2_with fail
      go_ret
      exact ⟨rfl, K9.out.bel⟩
end Go.Proofs.Yteiogjgmedikhaa
