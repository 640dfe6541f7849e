/-
  cncref17.Valid: any item.
-/
import Derived.Test.YtefdjdipbnnoaaaGreatDoorNumb17
import Derived.Test.YtefdjdipbnnoaaaGreatDoorRArcC17
namespace Go.Proofs.YtefdjdipbnnoaaaGreatDoor
open Go Go.RowKit
set_option linter.unusedVariables false
set_option linter.unusedSimpArgs false

theorem quiet_neq {P : Program} {C : World → Prop} {o : Oper} {a : Act} {K : Act → Prop} (t t' : TypeId) (x y : Operand) (h : o.op = .binOp .neq t x y t') (xs ys : Array Value) (b : Bool) (hx : a.eval x = .agg xs) (hy : a.eval y = .agg ys)
    (hm : P.eqGuardType P.depth t = false) (hr : ∀ w, (binOp .neq t (.agg xs) (.agg ys)).run P w = .ok (.bool b) w) (hk : K (a.put o.dst (.bool b))) : o.quiet P a C K :=
  ⟨.bool b, fun w _ => by
    unfold Oper.quietAt execOp
    simp only [h, hx, hy, Sem.run_bind, run_eqGuard_agg _ _ _ _ _ _ _ hm, hr w, Result.andThen_ok, Sem.run_pure]
    exact ⟨rfl, rfl⟩, hk⟩
def r1B (i : It) : Bool := inK i.kind 1 14 && (inK i.block 0 1999 && (eqI (baseI i) i && (withB i.fx i.fy i.fz && (withB i.tx i.ty i.tz && (inK i.blend 0 1000 && inK i.side (-1) 1)))))
def r3B (i : It) : Bool := !inK i.kind 2 6 || inK i.feed 1 60000000
def r5B (i : It) : Bool := if i.side = 0 then decide (i.radius = 0 ∧ (i.plane = 0 ∨ i.kind = 3)) else flOk i.plane && inK i.radius 0 32768
/-- cncref17.Valid. -/
def rvalI (i : It) : Bool := r1B i && (r3B i && (r5B i && (numB i && decide (i.kind ≠ 3 ∨ arcE i = 0))))
attribute [local go_sem] itA_0 itA_1 itA_2 itA_3 itA_4 itA_5 itA_6 itA_7 itA_8 itA_9 itA_10 itA_11 itA_12 itA_13 itA_14 itA_15 itA_16 itA_17 itA_18 itA_19 itA_20 itA_21
set_option maxRecDepth 100000 in
set_option maxHeartbeats 4000000 in
theorem rvalid_any (i : It) (w : World) : Calls Tryz.prog 28 #[.agg (itA i)] w fun e w' => e = .returned (.bool (rvalI i)) ∧ Below w.heap.size w w' := by
  have K1 := fun W => rin17_any i.kind 1 14 W
  have K2 := fun W => rin17_any i.block 0 1999 W
  have K3 := fun W => base_any i W
  have K4 := fun W => rwithin_any i.fx i.fy i.fz W
  have K5 := fun W => rwithin_any i.tx i.ty i.tz W
  have K6 := fun W => rin17_any i.blend 0 1000 W
  have K7 := fun W => rin17_any i.side (-1) 1 W
  have NR := fun W => neq_run (baseI i) i W
  obtain ⟨sv, hsv⟩ : ∃ z, rvalI i = z := ⟨_, rfl⟩
  rw [hsv]
  obtain ⟨g1, hg1⟩ : ∃ b, inK i.kind 1 14 = b := ⟨_, rfl⟩
  obtain ⟨g2, hg2⟩ : ∃ b, inK i.block 0 1999 = b := ⟨_, rfl⟩
  obtain ⟨eb, heb⟩ : ∃ b, eqI (baseI i) i = b := ⟨_, rfl⟩
  obtain ⟨g4, hg4⟩ : ∃ b, withB i.fx i.fy i.fz = b := ⟨_, rfl⟩
  obtain ⟨g5, hg5⟩ : ∃ b, withB i.tx i.ty i.tz = b := ⟨_, rfl⟩
  obtain ⟨g6, hg6⟩ : ∃ b, inK i.blend 0 1000 = b := ⟨_, rfl⟩
  obtain ⟨g7, hg7⟩ : ∃ b, inK i.side (-1) 1 = b := ⟨_, rfl⟩
  have HSV := Lib.hid (show sv = ((g1 && (g2 && (eb && (g4 && (g5 && (g6 && g7)))))) && (r3B i && (r5B i && (numB i && decide (i.kind ≠ 3 ∨ arcE i = 0))))) by rw [← hsv, ← hg1, ← hg2, ← heb, ← hg4, ← hg5, ← hg6, ← hg7]; rfl)
  rw [hg1] at K1
  rw [hg2] at K2
  rw [heb] at NR
  rw [hg4] at K4
  rw [hg5] at K5
  rw [hg6] at K6
  rw [hg7] at K7
  clear hsv hg1 hg2 heb hg4 hg5 hg6 hg7
  let S : World → Prop := fun W => ItAt W w.heap.size i ∧ Below w.heap.size w W
  have hs : S (w.alloc (.cells (itA i) 25)).drew := ⟨Blk.drew (Blk.new _ _ _), by (repeat (first | exact Below.refl _ _ | refine Below.drew ?_ | refine Below.alloc ?_ (by first | exact Nat.le_refl _ | (simp; done) | (simp; omega)) _ | refine Below.setCell ?_ (by first | exact Nat.le_refl _ | (simp; done) | (simp; omega)) _))⟩
  have inst : Nonempty (At S) := ⟨⟨_, hs⟩⟩
  have SB : ∀ W W', S W → Below W.heap.size W W' → S W' := fun W W' h b => ⟨h.1.below b, h.2.trans (b.mono h.2.size)⟩
  have H1 := Lib.hid (fun q : At S => (K1 q.w).mono (fun e w' h => (⟨h.1, h.2 ▸ q.ok⟩ : e = .returned (.bool g1) ∧ S w')))
  have H2 := Lib.hid (fun q : At S => (K2 q.w).mono (fun e w' h => (⟨h.1, h.2 ▸ q.ok⟩ : e = .returned (.bool g2) ∧ S w')))
  have H3 := Lib.hid (fun q : At S => (K3 q.w).mono (fun e w' h => (⟨h.1, SB _ _ q.ok h.2⟩ : e = .returned (.agg (itA (baseI i))) ∧ S w')))
  have H4 := Lib.hid (fun q : At S => (K4 q.w).mono (fun e w' h => (⟨h.1, SB _ _ q.ok h.2⟩ : e = .returned (.bool g4) ∧ S w')))
  have H5 := Lib.hid (fun q : At S => (K5 q.w).mono (fun e w' h => (⟨h.1, SB _ _ q.ok h.2⟩ : e = .returned (.bool g5) ∧ S w')))
  have H6 := Lib.hid (fun q : At S => (K6 q.w).mono (fun e w' h => (⟨h.1, h.2 ▸ q.ok⟩ : e = .returned (.bool g6) ∧ S w')))
  have H7 := Lib.hid (fun q : At S => (K7 q.w).mono (fun e w' h => (⟨h.1, h.2 ▸ q.ok⟩ : e = .returned (.bool g7) ∧ S w')))
  have HLD := Lib.hid (fun q : At S => (show (Instr.loadAt 25 (.pointer (some ⟨w.heap.size, 0, none⟩))).run Tryz.prog q.w = .ok (.agg (itA i)) q.w from load_of (cs := (itA i).toList) q.ok.1 Tryz.underlying25 rfl (by kernel_rfl)))
  have c0 : ∀ q : At S, q.w.cell? ⟨w.heap.size, 0, none⟩ = some (.int .i64 i.kind) := fun q => q.ok.1.c0
  have c1 : ∀ q : At S, q.w.cell? ⟨w.heap.size, 1, none⟩ = some (.int .i64 i.block) := fun q => q.ok.1.c1
  have c2 : ∀ q : At S, q.w.cell? ⟨w.heap.size, 2, none⟩ = some (.int .i64 i.fx) := fun q => q.ok.1.c2
  have c3 : ∀ q : At S, q.w.cell? ⟨w.heap.size, 3, none⟩ = some (.int .i64 i.fy) := fun q => q.ok.1.c3
  have c4 : ∀ q : At S, q.w.cell? ⟨w.heap.size, 4, none⟩ = some (.int .i64 i.fz) := fun q => q.ok.1.c4
  have c5 : ∀ q : At S, q.w.cell? ⟨w.heap.size, 5, none⟩ = some (.int .i64 i.tx) := fun q => q.ok.1.c5
  have c6 : ∀ q : At S, q.w.cell? ⟨w.heap.size, 6, none⟩ = some (.int .i64 i.ty) := fun q => q.ok.1.c6
  have c7 : ∀ q : At S, q.w.cell? ⟨w.heap.size, 7, none⟩ = some (.int .i64 i.tz) := fun q => q.ok.1.c7
  have c18 : ∀ q : At S, q.w.cell? ⟨w.heap.size, 18, none⟩ = some (.int .i64 i.blend) := fun q => q.ok.1.c18
  have c16 : ∀ q : At S, q.w.cell? ⟨w.heap.size, 16, none⟩ = some (.int .i64 i.side) := fun q => q.ok.1.c16
  have HFIN : Hid (∀ q : At S, ItAt q.w w.heap.size i ∧ Below w.heap.size w q.w) := Lib.hid (fun q : At S => q.ok)
  have NR := Lib.hid NR
  clear K1 K2 K3 K4 K5 K6 K7 SB
  clear_value S
  go_enter Tryz.func28, Tryz.ntmps28
  cases g1
  · skip
    have EE : sv = false := by rw [HSV.out]; simp
    subst EE
    go_wp2_with fail
    refine wp_region_at S (by kernel_rfl) (by kernel_rfl) hs ?_
    try simp only [List.append_eq, List.cons_append, List.nil_append]
    repeat (first
      | (go_big_quiet_want; (first
          | refine quiet_load 25 (.tmp 1) rfl _ _ rfl HLD.out ?_
          | refine quiet_neq 25 _ (.tmp 15) (.tmp 16) rfl (itA (baseI i)) (itA i) (!eb) rfl rfl (by kernel_rfl) NR.out ?_); simp only [Act.put, List.setIfInBounds_toArray, List.set_cons_zero, List.set_cons_succ]; go_big_quiet_on)
      | go_big_quiet_step (first | with_reducible exact Calls.at_of (H1.out _) fun e w' h => ⟨h.1, h.2⟩ | with_reducible exact Calls.at_of (H2.out _) fun e w' h => ⟨h.1, h.2⟩ | with_reducible exact Calls.at_of (H3.out _) fun e w' h => ⟨h.1, h.2⟩ | with_reducible exact Calls.at_of (H4.out _) fun e w' h => ⟨h.1, h.2⟩ | with_reducible exact Calls.at_of (H5.out _) fun e w' h => ⟨h.1, h.2⟩ | with_reducible exact Calls.at_of (H6.out _) fun e w' h => ⟨h.1, h.2⟩ | with_reducible exact Calls.at_of (H7.out _) fun e w' h => ⟨h.1, h.2⟩))
    refine wpQuiet_nil ?_
    rintro _ ⟨p, rfl⟩
    obtain ⟨I7, BEL7⟩ := HFIN.out p
    go_wp2_with fail
    go_ret
    exact ⟨rfl, BEL7⟩
  cases g2
  · skip
    have EE : sv = false := by rw [HSV.out]; simp
    subst EE
    go_wp2_with fail
    refine wp_region_at S (by kernel_rfl) (by kernel_rfl) hs ?_
    try simp only [List.append_eq, List.cons_append, List.nil_append]
    repeat (first
      | (go_big_quiet_want; (first
          | refine quiet_load 25 (.tmp 1) rfl _ _ rfl HLD.out ?_
          | refine quiet_neq 25 _ (.tmp 15) (.tmp 16) rfl (itA (baseI i)) (itA i) (!eb) rfl rfl (by kernel_rfl) NR.out ?_); simp only [Act.put, List.setIfInBounds_toArray, List.set_cons_zero, List.set_cons_succ]; go_big_quiet_on)
      | go_big_quiet_step (first | with_reducible exact Calls.at_of (H1.out _) fun e w' h => ⟨h.1, h.2⟩ | with_reducible exact Calls.at_of (H2.out _) fun e w' h => ⟨h.1, h.2⟩ | with_reducible exact Calls.at_of (H3.out _) fun e w' h => ⟨h.1, h.2⟩ | with_reducible exact Calls.at_of (H4.out _) fun e w' h => ⟨h.1, h.2⟩ | with_reducible exact Calls.at_of (H5.out _) fun e w' h => ⟨h.1, h.2⟩ | with_reducible exact Calls.at_of (H6.out _) fun e w' h => ⟨h.1, h.2⟩ | with_reducible exact Calls.at_of (H7.out _) fun e w' h => ⟨h.1, h.2⟩))
    refine wpQuiet_nil ?_
    rintro _ ⟨p, rfl⟩
    obtain ⟨I7, BEL7⟩ := HFIN.out p
    go_wp2_with fail
    go_ret
    exact ⟨rfl, BEL7⟩
  cases eb
  · skip
    have EE : sv = false := by rw [HSV.out]; simp
    subst EE
    go_wp2_with fail
    refine wp_region_at S (by kernel_rfl) (by kernel_rfl) hs ?_
    try simp only [List.append_eq, List.cons_append, List.nil_append]
    repeat (first
      | (go_big_quiet_want; (first
          | refine quiet_load 25 (.tmp 1) rfl _ _ rfl HLD.out ?_
          | refine quiet_neq 25 _ (.tmp 15) (.tmp 16) rfl (itA (baseI i)) (itA i) (!eb) rfl rfl (by kernel_rfl) NR.out ?_); simp only [Act.put, List.setIfInBounds_toArray, List.set_cons_zero, List.set_cons_succ]; go_big_quiet_on)
      | go_big_quiet_step (first | with_reducible exact Calls.at_of (H1.out _) fun e w' h => ⟨h.1, h.2⟩ | with_reducible exact Calls.at_of (H2.out _) fun e w' h => ⟨h.1, h.2⟩ | with_reducible exact Calls.at_of (H3.out _) fun e w' h => ⟨h.1, h.2⟩ | with_reducible exact Calls.at_of (H4.out _) fun e w' h => ⟨h.1, h.2⟩ | with_reducible exact Calls.at_of (H5.out _) fun e w' h => ⟨h.1, h.2⟩ | with_reducible exact Calls.at_of (H6.out _) fun e w' h => ⟨h.1, h.2⟩ | with_reducible exact Calls.at_of (H7.out _) fun e w' h => ⟨h.1, h.2⟩))
    refine wpQuiet_nil ?_
    rintro _ ⟨p, rfl⟩
    obtain ⟨I7, BEL7⟩ := HFIN.out p
    go_wp2_with fail
    go_ret
    exact ⟨rfl, BEL7⟩
  cases g4
  · skip
    have EE : sv = false := by rw [HSV.out]; simp
    subst EE
    go_wp2_with fail
    refine wp_region_at S (by kernel_rfl) (by kernel_rfl) hs ?_
    try simp only [List.append_eq, List.cons_append, List.nil_append]
    repeat (first
      | (go_big_quiet_want; (first
          | refine quiet_load 25 (.tmp 1) rfl _ _ rfl HLD.out ?_
          | refine quiet_neq 25 _ (.tmp 15) (.tmp 16) rfl (itA (baseI i)) (itA i) (!eb) rfl rfl (by kernel_rfl) NR.out ?_); simp only [Act.put, List.setIfInBounds_toArray, List.set_cons_zero, List.set_cons_succ]; go_big_quiet_on)
      | go_big_quiet_step (first | with_reducible exact Calls.at_of (H1.out _) fun e w' h => ⟨h.1, h.2⟩ | with_reducible exact Calls.at_of (H2.out _) fun e w' h => ⟨h.1, h.2⟩ | with_reducible exact Calls.at_of (H3.out _) fun e w' h => ⟨h.1, h.2⟩ | with_reducible exact Calls.at_of (H4.out _) fun e w' h => ⟨h.1, h.2⟩ | with_reducible exact Calls.at_of (H5.out _) fun e w' h => ⟨h.1, h.2⟩ | with_reducible exact Calls.at_of (H6.out _) fun e w' h => ⟨h.1, h.2⟩ | with_reducible exact Calls.at_of (H7.out _) fun e w' h => ⟨h.1, h.2⟩))
    refine wpQuiet_nil ?_
    rintro _ ⟨p, rfl⟩
    obtain ⟨I7, BEL7⟩ := HFIN.out p
    go_wp2_with fail
    go_ret
    exact ⟨rfl, BEL7⟩
  cases g5
  · skip
    have EE : sv = false := by rw [HSV.out]; simp
    subst EE
    go_wp2_with fail
    refine wp_region_at S (by kernel_rfl) (by kernel_rfl) hs ?_
    try simp only [List.append_eq, List.cons_append, List.nil_append]
    repeat (first
      | (go_big_quiet_want; (first
          | refine quiet_load 25 (.tmp 1) rfl _ _ rfl HLD.out ?_
          | refine quiet_neq 25 _ (.tmp 15) (.tmp 16) rfl (itA (baseI i)) (itA i) (!eb) rfl rfl (by kernel_rfl) NR.out ?_); simp only [Act.put, List.setIfInBounds_toArray, List.set_cons_zero, List.set_cons_succ]; go_big_quiet_on)
      | go_big_quiet_step (first | with_reducible exact Calls.at_of (H1.out _) fun e w' h => ⟨h.1, h.2⟩ | with_reducible exact Calls.at_of (H2.out _) fun e w' h => ⟨h.1, h.2⟩ | with_reducible exact Calls.at_of (H3.out _) fun e w' h => ⟨h.1, h.2⟩ | with_reducible exact Calls.at_of (H4.out _) fun e w' h => ⟨h.1, h.2⟩ | with_reducible exact Calls.at_of (H5.out _) fun e w' h => ⟨h.1, h.2⟩ | with_reducible exact Calls.at_of (H6.out _) fun e w' h => ⟨h.1, h.2⟩ | with_reducible exact Calls.at_of (H7.out _) fun e w' h => ⟨h.1, h.2⟩))
    refine wpQuiet_nil ?_
    rintro _ ⟨p, rfl⟩
    obtain ⟨I7, BEL7⟩ := HFIN.out p
    go_wp2_with fail
    go_ret
    exact ⟨rfl, BEL7⟩
  cases g6
  · skip
    have EE : sv = false := by rw [HSV.out]; simp
    subst EE
    go_wp2_with fail
    refine wp_region_at S (by kernel_rfl) (by kernel_rfl) hs ?_
    try simp only [List.append_eq, List.cons_append, List.nil_append]
    repeat (first
      | (go_big_quiet_want; (first
          | refine quiet_load 25 (.tmp 1) rfl _ _ rfl HLD.out ?_
          | refine quiet_neq 25 _ (.tmp 15) (.tmp 16) rfl (itA (baseI i)) (itA i) (!eb) rfl rfl (by kernel_rfl) NR.out ?_); simp only [Act.put, List.setIfInBounds_toArray, List.set_cons_zero, List.set_cons_succ]; go_big_quiet_on)
      | go_big_quiet_step (first | with_reducible exact Calls.at_of (H1.out _) fun e w' h => ⟨h.1, h.2⟩ | with_reducible exact Calls.at_of (H2.out _) fun e w' h => ⟨h.1, h.2⟩ | with_reducible exact Calls.at_of (H3.out _) fun e w' h => ⟨h.1, h.2⟩ | with_reducible exact Calls.at_of (H4.out _) fun e w' h => ⟨h.1, h.2⟩ | with_reducible exact Calls.at_of (H5.out _) fun e w' h => ⟨h.1, h.2⟩ | with_reducible exact Calls.at_of (H6.out _) fun e w' h => ⟨h.1, h.2⟩ | with_reducible exact Calls.at_of (H7.out _) fun e w' h => ⟨h.1, h.2⟩))
    refine wpQuiet_nil ?_
    rintro _ ⟨p, rfl⟩
    obtain ⟨I7, BEL7⟩ := HFIN.out p
    go_wp2_with fail
    go_ret
    exact ⟨rfl, BEL7⟩
  cases g7
  · skip
    have EE : sv = false := by rw [HSV.out]; simp
    subst EE
    go_wp2_with fail
    refine wp_region_at S (by kernel_rfl) (by kernel_rfl) hs ?_
    try simp only [List.append_eq, List.cons_append, List.nil_append]
    repeat (first
      | (go_big_quiet_want; (first
          | refine quiet_load 25 (.tmp 1) rfl _ _ rfl HLD.out ?_
          | refine quiet_neq 25 _ (.tmp 15) (.tmp 16) rfl (itA (baseI i)) (itA i) (!eb) rfl rfl (by kernel_rfl) NR.out ?_); simp only [Act.put, List.setIfInBounds_toArray, List.set_cons_zero, List.set_cons_succ]; go_big_quiet_on)
      | go_big_quiet_step (first | with_reducible exact Calls.at_of (H1.out _) fun e w' h => ⟨h.1, h.2⟩ | with_reducible exact Calls.at_of (H2.out _) fun e w' h => ⟨h.1, h.2⟩ | with_reducible exact Calls.at_of (H3.out _) fun e w' h => ⟨h.1, h.2⟩ | with_reducible exact Calls.at_of (H4.out _) fun e w' h => ⟨h.1, h.2⟩ | with_reducible exact Calls.at_of (H5.out _) fun e w' h => ⟨h.1, h.2⟩ | with_reducible exact Calls.at_of (H6.out _) fun e w' h => ⟨h.1, h.2⟩ | with_reducible exact Calls.at_of (H7.out _) fun e w' h => ⟨h.1, h.2⟩))
    refine wpQuiet_nil ?_
    rintro _ ⟨p, rfl⟩
    obtain ⟨I7, BEL7⟩ := HFIN.out p
    go_wp2_with fail
    go_ret
    exact ⟨rfl, BEL7⟩
  go_wp2_with fail
  refine wp_region_at S (by kernel_rfl) (by kernel_rfl) hs ?_
  try simp only [List.append_eq, List.cons_append, List.nil_append]
  repeat (first
    | (go_big_quiet_want; (first
        | refine quiet_load 25 (.tmp 1) rfl _ _ rfl HLD.out ?_
        | refine quiet_neq 25 _ (.tmp 15) (.tmp 16) rfl (itA (baseI i)) (itA i) (!eb) rfl rfl (by kernel_rfl) NR.out ?_); simp only [Act.put, List.setIfInBounds_toArray, List.set_cons_zero, List.set_cons_succ]; go_big_quiet_on)
    | go_big_quiet_step (first | with_reducible exact Calls.at_of (H1.out _) fun e w' h => ⟨h.1, h.2⟩ | with_reducible exact Calls.at_of (H2.out _) fun e w' h => ⟨h.1, h.2⟩ | with_reducible exact Calls.at_of (H3.out _) fun e w' h => ⟨h.1, h.2⟩ | with_reducible exact Calls.at_of (H4.out _) fun e w' h => ⟨h.1, h.2⟩ | with_reducible exact Calls.at_of (H5.out _) fun e w' h => ⟨h.1, h.2⟩ | with_reducible exact Calls.at_of (H6.out _) fun e w' h => ⟨h.1, h.2⟩ | with_reducible exact Calls.at_of (H7.out _) fun e w' h => ⟨h.1, h.2⟩))
  refine wpQuiet_nil ?_
  rintro _ ⟨p, rfl⟩
  obtain ⟨I7, BEL7⟩ := HFIN.out p
  clear c0 c1 c2 c3 c4 c5 c6 c7 c16 c18
  generalize p.w = W7 at I7 BEL7 ⊢
  clear HFIN p inst hs H1 H2 H3 H4 H5 H6 H7 HLD NR
  have HS2 := Lib.hid (show sv = (r3B i && (r5B i && (numB i && decide (i.kind ≠ 3 ∨ arcE i = 0)))) by rw [HSV.out]; simp)
  clear HSV
  have l7 : w.heap.size < W7.heap.size := I7.lt
  have c0 := I7.c0
  have c14 := I7.c14
  have KA := Lib.hid (fun W => rin17_any i.kind 2 6 W)
  have KB := Lib.hid (fun W => rin17_any i.feed 1 60000000 W)
  obtain ⟨ba, hba⟩ : ∃ b, inK i.kind 2 6 = b := ⟨_, rfl⟩
  obtain ⟨bb, hbb⟩ : ∃ b, inK i.feed 1 60000000 = b := ⟨_, rfl⟩
  rw [hba] at KA
  rw [hbb] at KB
  have HBA := Lib.hid hba
  have HBB := Lib.hid hbb
  clear hba hbb
  go_wp2_with fail
  refine (KA.out _).mono ?_
  rintro e w' ⟨rfl, rfl⟩
  cases ba
  · skip
    have HS3 := Lib.hid (show sv = (r5B i && (numB i && decide (i.kind ≠ 3 ∨ arcE i = 0))) by rw [HS2.out]; unfold r3B; rw [HBA.out]; simp)
    have c16 := I7.c16
    have c17 := I7.c17
    have c8 := I7.c8
    by_cases hs0 : i.side = 0
    · have k0 : (i.side == 0) = true := by simpa using hs0
      have k0' : (i.side != 0) = false := by simpa using hs0
      have R5 : r5B i = decide (i.radius = 0 ∧ (i.plane = 0 ∨ i.kind = 3)) := by unfold r5B; rw [if_pos hs0]
      clear hs0
      by_cases hr : i.radius = 0
      rotate_left
      · have k1 : (i.radius == 0) = false := by simpa using hr
        have k1' : (i.radius != 0) = true := by simpa using hr
        have R6 : r5B i = false := by rw [R5]; simp [hr]
        clear R5 hr
        have EE : sv = false := by rw [HS3.out, R6]; simp
        subst EE
        go_wp2_with fail
        go_ret
        exact ⟨rfl, BEL7⟩
      have k1 : (i.radius == 0) = true := by simpa using hr
      have k1' : (i.radius != 0) = false := by simpa using hr
      by_cases hp : i.plane = 0
      · have k2 : (i.plane == 0) = true := by simpa using hp
        have k2' : (i.plane != 0) = false := by simpa using hp
        have R6 : r5B i = true := by rw [R5]; simp [hr, hp]
        have HS4 := Lib.hid (HS3.out.trans (by rw [R6, Bool.true_and]))
        clear R5 R6 hr hp HS3
        have KN := Lib.hid (fun W => numbers_any i W)
        have KC := Lib.hid (fun W => rcheck_any i W)
        obtain ⟨nb, hnb⟩ : ∃ b, numB i = b := ⟨_, rfl⟩
        obtain ⟨ae, hae⟩ : ∃ b, arcE i = b := ⟨_, rfl⟩
        rw [hnb] at KN HS4
        rw [hae] at KC HS4
        clear hnb hae
        go_wp2_with (first
          | ((with_reducible refine go_loadI (.tmp 1) w.heap.size i (by with_unfolding_all rfl) I7 ?_)))
        refine (KN.out _).mono ?_
        rintro e w8 ⟨rfl, b8⟩
        have I8 : ItAt w8 w.heap.size i := ItAt.below I7 b8
        have BEL8 : Below w.heap.size w w8 := BEL7.trans (b8.mono BEL7.size)
        have l8 : w.heap.size < w8.heap.size := I8.lt
        clear b8 I7 BEL7 c0
        have c0 := I8.c0
        cases nb
        · have EE : sv = false := by rw [HS4.out]; simp
          subst EE
          go_wp2_with fail
          go_ret
          exact ⟨rfl, BEL8⟩
        by_cases hk : i.kind = 3
        rotate_left
        · have EE : sv = true := by rw [HS4.out]; simp [hk]
          have k0 : (i.kind == 3) = false := by simpa using hk
          have k1 : (i.kind != 3) = true := by simpa using hk
          subst EE
          go_wp2_with fail
          go_ret
          exact ⟨rfl, BEL8⟩
        have HS5 := Lib.hid (show sv = (ae == 0) by rw [HS4.out]; simp only [hk, ne_eq, not_true_eq_false, false_or, Bool.true_and]; rfl)
        rw [hk] at c0
        clear hk HS4
        go_wp2_with (first
          | ((with_reducible refine gd_item 25 (.tmp 1) w.heap.size i (by with_unfolding_all rfl) rfl I8 Tryz.underlying25 (by with_unfolding_all rfl) (by with_unfolding_all kernel_rfl) ?_)))
        refine (KC.out _).mono ?_
        rintro e w9 ⟨rfl, b9⟩
        have BEL9 : Below w.heap.size w w9 := BEL8.trans (b9.mono BEL8.size)
        clear b9 I8 BEL8 c0
        go_wp2_with fail
        all_goals
          go_ret
          exact ⟨ret_bool (by rw [HS5.out]), BEL9⟩
      have k2 : (i.plane == 0) = false := by simpa using hp
      have k2' : (i.plane != 0) = true := by simpa using hp
      by_cases hq : i.kind = 3
      rotate_left
      · have k3 : (i.kind == 3) = false := by simpa using hq
        have k3' : (i.kind != 3) = true := by simpa using hq
        have R6 : r5B i = false := by rw [R5]; simp [hp, hq]
        clear R5 hr hp hq
        have EE : sv = false := by rw [HS3.out, R6]; simp
        subst EE
        go_wp2_with fail
        go_ret
        exact ⟨rfl, BEL7⟩
      have k3 : (i.kind == 3) = true := by simpa using hq
      have k3' : (i.kind != 3) = false := by simpa using hq
      have R6 : r5B i = true := by rw [R5]; simp [hr, hq]
      have HS4 := Lib.hid (HS3.out.trans (by rw [R6, Bool.true_and]))
      have HQ := Lib.hid hq
      clear R5 R6 hr hp hq HS3
      have KN := Lib.hid (fun W => numbers_any i W)
      have KC := Lib.hid (fun W => rcheck_any i W)
      obtain ⟨nb, hnb⟩ : ∃ b, numB i = b := ⟨_, rfl⟩
      obtain ⟨ae, hae⟩ : ∃ b, arcE i = b := ⟨_, rfl⟩
      rw [hnb] at KN HS4
      rw [hae] at KC HS4
      clear hnb hae
      go_wp2_with (first
        | ((with_reducible refine go_loadI (.tmp 1) w.heap.size i (by with_unfolding_all rfl) I7 ?_)))
      refine (KN.out _).mono ?_
      rintro e w8 ⟨rfl, b8⟩
      have I8 : ItAt w8 w.heap.size i := ItAt.below I7 b8
      have BEL8 : Below w.heap.size w w8 := BEL7.trans (b8.mono BEL7.size)
      have l8 : w.heap.size < w8.heap.size := I8.lt
      clear b8 I7 BEL7 c0
      have c0 := I8.c0
      cases nb
      · have EE : sv = false := by rw [HS4.out]; simp
        subst EE
        go_wp2_with fail
        go_ret
        exact ⟨rfl, BEL8⟩
      have hk := HQ.out
      have HS5 := Lib.hid (show sv = (ae == 0) by rw [HS4.out]; simp only [hk, ne_eq, not_true_eq_false, false_or, Bool.true_and]; rfl)
      rw [hk] at c0
      clear hk HS4
      go_wp2_with (first
        | ((with_reducible refine gd_item 25 (.tmp 1) w.heap.size i (by with_unfolding_all rfl) rfl I8 Tryz.underlying25 (by with_unfolding_all rfl) (by with_unfolding_all kernel_rfl) ?_)))
      refine (KC.out _).mono ?_
      rintro e w9 ⟨rfl, b9⟩
      have BEL9 : Below w.heap.size w w9 := BEL8.trans (b9.mono BEL8.size)
      clear b9 I8 BEL8 c0
      go_wp2_with fail
      all_goals
        go_ret
        exact ⟨ret_bool (by rw [HS5.out]), BEL9⟩
    · have k0 : (i.side == 0) = false := by simpa using hs0
      have k0' : (i.side != 0) = true := by simpa using hs0
      have R5 : r5B i = (flOk i.plane && inK i.radius 0 32768) := by unfold r5B; rw [if_neg hs0]
      have KP := Lib.hid (fun W => rplane_any i.plane W)
      have KR := Lib.hid (fun W => rin17_any i.radius 0 32768 W)
      obtain ⟨ok, hok⟩ : ∃ b, flOk i.plane = b := ⟨_, rfl⟩
      obtain ⟨rb, hrb⟩ : ∃ b, inK i.radius 0 32768 = b := ⟨_, rfl⟩
      rw [hok] at KP R5
      rw [hrb] at KR R5
      clear hs0 hok hrb
      have R5 := Lib.hid R5
      go_wp2_with fail
      refine (KP.out _).mono ?_
      rintro e w' ⟨rfl, rfl⟩
      cases ok
      · have R6 : r5B i = false := by rw [R5.out]; simp
        have EE : sv = false := by rw [HS3.out, R6]; simp
        subst EE
        go_wp2_with fail
        go_ret
        exact ⟨rfl, BEL7⟩
      go_wp2_with fail
      refine (KR.out _).mono ?_
      rintro e w' ⟨rfl, rfl⟩
      cases rb
      · have R6 : r5B i = false := by rw [R5.out]; simp
        have EE : sv = false := by rw [HS3.out, R6]; simp
        subst EE
        go_wp2_with fail
        go_ret
        exact ⟨rfl, BEL7⟩
      have R6 : r5B i = true := by rw [R5.out]; rfl
      have HS4 := Lib.hid (HS3.out.trans (by rw [R6, Bool.true_and]))
      clear R5 R6 HS3
      have KN := Lib.hid (fun W => numbers_any i W)
      have KC := Lib.hid (fun W => rcheck_any i W)
      obtain ⟨nb, hnb⟩ : ∃ b, numB i = b := ⟨_, rfl⟩
      obtain ⟨ae, hae⟩ : ∃ b, arcE i = b := ⟨_, rfl⟩
      rw [hnb] at KN HS4
      rw [hae] at KC HS4
      clear hnb hae
      go_wp2_with (first
        | ((with_reducible refine go_loadI (.tmp 1) w.heap.size i (by with_unfolding_all rfl) I7 ?_)))
      refine (KN.out _).mono ?_
      rintro e w8 ⟨rfl, b8⟩
      have I8 : ItAt w8 w.heap.size i := ItAt.below I7 b8
      have BEL8 : Below w.heap.size w w8 := BEL7.trans (b8.mono BEL7.size)
      have l8 : w.heap.size < w8.heap.size := I8.lt
      clear b8 I7 BEL7 c0
      have c0 := I8.c0
      cases nb
      · have EE : sv = false := by rw [HS4.out]; simp
        subst EE
        go_wp2_with fail
        go_ret
        exact ⟨rfl, BEL8⟩
      by_cases hk : i.kind = 3
      rotate_left
      · have EE : sv = true := by rw [HS4.out]; simp [hk]
        have k0 : (i.kind == 3) = false := by simpa using hk
        have k1 : (i.kind != 3) = true := by simpa using hk
        subst EE
        go_wp2_with fail
        go_ret
        exact ⟨rfl, BEL8⟩
      have HS5 := Lib.hid (show sv = (ae == 0) by rw [HS4.out]; simp only [hk, ne_eq, not_true_eq_false, false_or, Bool.true_and]; rfl)
      rw [hk] at c0
      clear hk HS4
      go_wp2_with (first
        | ((with_reducible refine gd_item 25 (.tmp 1) w.heap.size i (by with_unfolding_all rfl) rfl I8 Tryz.underlying25 (by with_unfolding_all rfl) (by with_unfolding_all kernel_rfl) ?_)))
      refine (KC.out _).mono ?_
      rintro e w9 ⟨rfl, b9⟩
      have BEL9 : Below w.heap.size w w9 := BEL8.trans (b9.mono BEL8.size)
      clear b9 I8 BEL8 c0
      go_wp2_with fail
      all_goals
        go_ret
        exact ⟨ret_bool (by rw [HS5.out]), BEL9⟩
  go_wp2_with fail
  refine (KB.out _).mono ?_
  rintro e w' ⟨rfl, rfl⟩
  cases bb
  · have EE : sv = false := by rw [HS2.out]; unfold r3B; rw [HBA.out, HBB.out]; simp
    subst EE
    go_wp2_with fail
    go_ret
    exact ⟨rfl, BEL7⟩
  have HS3 := Lib.hid (show sv = (r5B i && (numB i && decide (i.kind ≠ 3 ∨ arcE i = 0))) by rw [HS2.out]; unfold r3B; rw [HBB.out]; simp)
  have c16 := I7.c16
  have c17 := I7.c17
  have c8 := I7.c8
  by_cases hs0 : i.side = 0
  · have k0 : (i.side == 0) = true := by simpa using hs0
    have k0' : (i.side != 0) = false := by simpa using hs0
    have R5 : r5B i = decide (i.radius = 0 ∧ (i.plane = 0 ∨ i.kind = 3)) := by unfold r5B; rw [if_pos hs0]
    clear hs0
    by_cases hr : i.radius = 0
    rotate_left
    · have k1 : (i.radius == 0) = false := by simpa using hr
      have k1' : (i.radius != 0) = true := by simpa using hr
      have R6 : r5B i = false := by rw [R5]; simp [hr]
      clear R5 hr
      have EE : sv = false := by rw [HS3.out, R6]; simp
      subst EE
      go_wp2_with fail
      go_ret
      exact ⟨rfl, BEL7⟩
    have k1 : (i.radius == 0) = true := by simpa using hr
    have k1' : (i.radius != 0) = false := by simpa using hr
    by_cases hp : i.plane = 0
    · have k2 : (i.plane == 0) = true := by simpa using hp
      have k2' : (i.plane != 0) = false := by simpa using hp
      have R6 : r5B i = true := by rw [R5]; simp [hr, hp]
      have HS4 := Lib.hid (HS3.out.trans (by rw [R6, Bool.true_and]))
      clear R5 R6 hr hp HS3
      have KN := Lib.hid (fun W => numbers_any i W)
      have KC := Lib.hid (fun W => rcheck_any i W)
      obtain ⟨nb, hnb⟩ : ∃ b, numB i = b := ⟨_, rfl⟩
      obtain ⟨ae, hae⟩ : ∃ b, arcE i = b := ⟨_, rfl⟩
      rw [hnb] at KN HS4
      rw [hae] at KC HS4
      clear hnb hae
      go_wp2_with (first
        | ((with_reducible refine go_loadI (.tmp 1) w.heap.size i (by with_unfolding_all rfl) I7 ?_)))
      refine (KN.out _).mono ?_
      rintro e w8 ⟨rfl, b8⟩
      have I8 : ItAt w8 w.heap.size i := ItAt.below I7 b8
      have BEL8 : Below w.heap.size w w8 := BEL7.trans (b8.mono BEL7.size)
      have l8 : w.heap.size < w8.heap.size := I8.lt
      clear b8 I7 BEL7 c0
      have c0 := I8.c0
      cases nb
      · have EE : sv = false := by rw [HS4.out]; simp
        subst EE
        go_wp2_with fail
        go_ret
        exact ⟨rfl, BEL8⟩
      by_cases hk : i.kind = 3
      rotate_left
      · have EE : sv = true := by rw [HS4.out]; simp [hk]
        have k0 : (i.kind == 3) = false := by simpa using hk
        have k1 : (i.kind != 3) = true := by simpa using hk
        subst EE
        go_wp2_with fail
        go_ret
        exact ⟨rfl, BEL8⟩
      have HS5 := Lib.hid (show sv = (ae == 0) by rw [HS4.out]; simp only [hk, ne_eq, not_true_eq_false, false_or, Bool.true_and]; rfl)
      rw [hk] at c0
      clear hk HS4
      go_wp2_with (first
        | ((with_reducible refine gd_item 25 (.tmp 1) w.heap.size i (by with_unfolding_all rfl) rfl I8 Tryz.underlying25 (by with_unfolding_all rfl) (by with_unfolding_all kernel_rfl) ?_)))
      refine (KC.out _).mono ?_
      rintro e w9 ⟨rfl, b9⟩
      have BEL9 : Below w.heap.size w w9 := BEL8.trans (b9.mono BEL8.size)
      clear b9 I8 BEL8 c0
      go_wp2_with fail
      all_goals
        go_ret
        exact ⟨ret_bool (by rw [HS5.out]), BEL9⟩
    have k2 : (i.plane == 0) = false := by simpa using hp
    have k2' : (i.plane != 0) = true := by simpa using hp
    by_cases hq : i.kind = 3
    rotate_left
    · have k3 : (i.kind == 3) = false := by simpa using hq
      have k3' : (i.kind != 3) = true := by simpa using hq
      have R6 : r5B i = false := by rw [R5]; simp [hp, hq]
      clear R5 hr hp hq
      have EE : sv = false := by rw [HS3.out, R6]; simp
      subst EE
      go_wp2_with fail
      go_ret
      exact ⟨rfl, BEL7⟩
    have k3 : (i.kind == 3) = true := by simpa using hq
    have k3' : (i.kind != 3) = false := by simpa using hq
    have R6 : r5B i = true := by rw [R5]; simp [hr, hq]
    have HS4 := Lib.hid (HS3.out.trans (by rw [R6, Bool.true_and]))
    have HQ := Lib.hid hq
    clear R5 R6 hr hp hq HS3
    have KN := Lib.hid (fun W => numbers_any i W)
    have KC := Lib.hid (fun W => rcheck_any i W)
    obtain ⟨nb, hnb⟩ : ∃ b, numB i = b := ⟨_, rfl⟩
    obtain ⟨ae, hae⟩ : ∃ b, arcE i = b := ⟨_, rfl⟩
    rw [hnb] at KN HS4
    rw [hae] at KC HS4
    clear hnb hae
    go_wp2_with (first
      | ((with_reducible refine go_loadI (.tmp 1) w.heap.size i (by with_unfolding_all rfl) I7 ?_)))
    refine (KN.out _).mono ?_
    rintro e w8 ⟨rfl, b8⟩
    have I8 : ItAt w8 w.heap.size i := ItAt.below I7 b8
    have BEL8 : Below w.heap.size w w8 := BEL7.trans (b8.mono BEL7.size)
    have l8 : w.heap.size < w8.heap.size := I8.lt
    clear b8 I7 BEL7 c0
    have c0 := I8.c0
    cases nb
    · have EE : sv = false := by rw [HS4.out]; simp
      subst EE
      go_wp2_with fail
      go_ret
      exact ⟨rfl, BEL8⟩
    have hk := HQ.out
    have HS5 := Lib.hid (show sv = (ae == 0) by rw [HS4.out]; simp only [hk, ne_eq, not_true_eq_false, false_or, Bool.true_and]; rfl)
    rw [hk] at c0
    clear hk HS4
    go_wp2_with (first
      | ((with_reducible refine gd_item 25 (.tmp 1) w.heap.size i (by with_unfolding_all rfl) rfl I8 Tryz.underlying25 (by with_unfolding_all rfl) (by with_unfolding_all kernel_rfl) ?_)))
    refine (KC.out _).mono ?_
    rintro e w9 ⟨rfl, b9⟩
    have BEL9 : Below w.heap.size w w9 := BEL8.trans (b9.mono BEL8.size)
    clear b9 I8 BEL8 c0
    go_wp2_with fail
    all_goals
      go_ret
      exact ⟨ret_bool (by rw [HS5.out]), BEL9⟩
  · have k0 : (i.side == 0) = false := by simpa using hs0
    have k0' : (i.side != 0) = true := by simpa using hs0
    have R5 : r5B i = (flOk i.plane && inK i.radius 0 32768) := by unfold r5B; rw [if_neg hs0]
    have KP := Lib.hid (fun W => rplane_any i.plane W)
    have KR := Lib.hid (fun W => rin17_any i.radius 0 32768 W)
    obtain ⟨ok, hok⟩ : ∃ b, flOk i.plane = b := ⟨_, rfl⟩
    obtain ⟨rb, hrb⟩ : ∃ b, inK i.radius 0 32768 = b := ⟨_, rfl⟩
    rw [hok] at KP R5
    rw [hrb] at KR R5
    clear hs0 hok hrb
    have R5 := Lib.hid R5
    go_wp2_with fail
    refine (KP.out _).mono ?_
    rintro e w' ⟨rfl, rfl⟩
    cases ok
    · have R6 : r5B i = false := by rw [R5.out]; simp
      have EE : sv = false := by rw [HS3.out, R6]; simp
      subst EE
      go_wp2_with fail
      go_ret
      exact ⟨rfl, BEL7⟩
    go_wp2_with fail
    refine (KR.out _).mono ?_
    rintro e w' ⟨rfl, rfl⟩
    cases rb
    · have R6 : r5B i = false := by rw [R5.out]; simp
      have EE : sv = false := by rw [HS3.out, R6]; simp
      subst EE
      go_wp2_with fail
      go_ret
      exact ⟨rfl, BEL7⟩
    have R6 : r5B i = true := by rw [R5.out]; rfl
    have HS4 := Lib.hid (HS3.out.trans (by rw [R6, Bool.true_and]))
    clear R5 R6 HS3
    have KN := Lib.hid (fun W => numbers_any i W)
    have KC := Lib.hid (fun W => rcheck_any i W)
    obtain ⟨nb, hnb⟩ : ∃ b, numB i = b := ⟨_, rfl⟩
    obtain ⟨ae, hae⟩ : ∃ b, arcE i = b := ⟨_, rfl⟩
    rw [hnb] at KN HS4
    rw [hae] at KC HS4
    clear hnb hae
    go_wp2_with (first
      | ((with_reducible refine go_loadI (.tmp 1) w.heap.size i (by with_unfolding_all rfl) I7 ?_)))
    refine (KN.out _).mono ?_
    rintro e w8 ⟨rfl, b8⟩
    have I8 : ItAt w8 w.heap.size i := ItAt.below I7 b8
    have BEL8 : Below w.heap.size w w8 := BEL7.trans (b8.mono BEL7.size)
    have l8 : w.heap.size < w8.heap.size := I8.lt
    clear b8 I7 BEL7 c0
    have c0 := I8.c0
    cases nb
    · have EE : sv = false := by rw [HS4.out]; simp
      subst EE
      go_wp2_with fail
      go_ret
      exact ⟨rfl, BEL8⟩
    by_cases hk : i.kind = 3
    rotate_left
    · have EE : sv = true := by rw [HS4.out]; simp [hk]
      have k0 : (i.kind == 3) = false := by simpa using hk
      have k1 : (i.kind != 3) = true := by simpa using hk
      subst EE
      go_wp2_with fail
      go_ret
      exact ⟨rfl, BEL8⟩
    have HS5 := Lib.hid (show sv = (ae == 0) by rw [HS4.out]; simp only [hk, ne_eq, not_true_eq_false, false_or, Bool.true_and]; rfl)
    rw [hk] at c0
    clear hk HS4
    go_wp2_with (first
      | ((with_reducible refine gd_item 25 (.tmp 1) w.heap.size i (by with_unfolding_all rfl) rfl I8 Tryz.underlying25 (by with_unfolding_all rfl) (by with_unfolding_all kernel_rfl) ?_)))
    refine (KC.out _).mono ?_
    rintro e w9 ⟨rfl, b9⟩
    have BEL9 : Below w.heap.size w w9 := BEL8.trans (b9.mono BEL8.size)
    clear b9 I8 BEL8 c0
    go_wp2_with fail
    all_goals
      go_ret
      exact ⟨ret_bool (by rw [HS5.out]), BEL9⟩
end Go.Proofs.YtefdjdipbnnoaaaGreatDoor
