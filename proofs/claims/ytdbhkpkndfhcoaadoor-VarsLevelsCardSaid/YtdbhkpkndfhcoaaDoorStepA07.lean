/-
  cnclaw07.step: an act on both stores: what it returns and leaves. Stores of 1 to 9 levels; an act whose arguments lie in memory.
-/
import Derived.Test.YtdbhkpkndfhcoaaDoorStep07
namespace Go.Proofs.YtdbhkpkndfhcoaaDoor
open Go Go.RowKit
set_option linter.unusedVariables false

theorem after0 {d : ActD} {x : SD} (h : d.what ≠ 1) (h2 : d.what ≠ 2) (h3 : d.what ≠ 3) (h4 : d.what ≠ 4) : afterS d x = x := by unfold afterS; rw [if_neg h, if_neg h2, if_neg h3, if_neg h4]
theorem after1 {d : ActD} {x : SD} (h : d.what = 1) : afterS d x = ⟨x.n, setVs x.n x.V (kOf d) (vOf d), setC x.C (kOf d) (vOf d)⟩ := by unfold afterS; rw [if_pos h]
theorem after2 {d : ActD} {x : SD} (h : d.what = 2) : afterS d x = ⟨x.n, x.V, hostC x.C (kOf d) (vOf d)⟩ := by unfold afterS; rw [if_neg (by omega), if_pos h]
theorem after3 {d : ActD} {x : SD} (h : d.what = 3) : afterS d x = if x.n = 9 then x else if (scanD d).1 = 0 then ⟨x.n + 1, x.V ++ (List.range 33).map (scanD d).2, x.C⟩ else x := by unfold afterS; rw [if_neg (by omega), if_neg (by omega), if_pos h]
theorem after4 {d : ActD} {x : SD} (h : d.what = 4) : afterS d x = if x.n = 1 then x else ⟨x.n - 1, x.V.take ((x.n - 1) * 33), x.C⟩ := by unfold afterS; rw [if_neg (by omega), if_neg (by omega), if_neg (by omega), if_pos h]

set_option maxRecDepth 100000 in
set_option maxHeartbeats 1000000 in
theorem step_get (d : ActD) (x : SD) {base s g c r q c2 : Nat} (w : World) (h : SAt w base s g c x) (k : TAt w base r q c2 x) (hA : ∀ W', Below base w W' → ArgsAt W' d.addr d.args) (hn : d.args.length ≤ 9223372036854775807) (ht : Lib.TabIs Tryd.prog w "cnc/vars.numbers" .i64 tabNums) (hb0 : 0 < base) (hW : d.what = 0) :
    Calls Tryd.prog 24 #[.pointer (some ⟨s, 0, none⟩), .pointer (some ⟨r, 0, none⟩), .agg d.cells.toArray] w (StepPost d x x base s g r q w) := by
  obtain ⟨W, N, V, near, addr, A, cap⟩ := d
  obtain rfl : W = 0 := hW
  have hw0 := tab_pos ht
  have hbd := h.bounds
  have kbd := k.bounds
  simp only [ActD.cells]
  cases near
  · have b0 := (Below.refl w.heap.size w).alloc (Nat.le_refl _) (.cells #[.int .i64 0, .int .i64 N, .int .i64 V, .bool false, .slice addr A.length cap] 40)
    have hb := Blk.new w 40 #[.int .i64 0, .int .i64 N, .int .i64 V, .bool false, .slice addr A.length cap]
    have KV := Lib.hid (variable_any 0 N V false (.slice addr A.length cap) rfl (w.alloc (.cells #[.int .i64 0, .int .i64 N, .int .i64 V, .bool false, .slice addr A.length cap] 40)))
    go_enter Tryd.func24, Tryd.ntmps24
    go_wp2_with fail
    refine KV.out.mono ?_
    rintro e w1 ⟨rfl, b1'⟩
    have b1 : Below w.heap.size w w1 := b0.trans (b1'.mono (by simp))
    have hb1 := hb.below b1' (by simp)
    have c0 := hb1.cell' 0 rfl
    have c2' := hb1.cell' 2 rfl
    have c3 := hb1.cell' 3 rfl
    have H1 := Lib.hid (h.below b1)
    have K1 := Lib.hid (k.below b1)
    have hsz1 := b1.size
    clear KV b0 b1' hb
    have J1 := Lib.hid (get_any (varOf N false) w1 H1.out)
    have J2 := Lib.hid (fun m => rget_any (varOf N false) (w1.drewN m) (K1.out.drewN m))
    generalize getV x.n x.V x.C (varOf N false) = p at *
    obtain ⟨pv, pe⟩ := p
    go_wp2_with fail
    refine J1.out.mono ?_
    rintro e w' ⟨rfl, m, rfl⟩
    go_wp2_with fail
    refine (J2.out m).mono ?_
    rintro e w' ⟨rfl, m2, rfl⟩
    rw [World.drewN_drewN]
    go_wp2_with fail
    go_ret2
    exact ⟨s, g, c, q, c2, rfl, by rw [after0 (by simp) (by simp) (by simp) (by simp)]; exact H1.out, by rw [after0 (by simp) (by simp) (by simp) (by simp)]; exact K1.out, fun _ => rfl, Four.of_below (below_drewN b1 _), .inl rfl, .inl rfl, .inl rfl⟩
  · have b0 := (Below.refl w.heap.size w).alloc (Nat.le_refl _) (.cells #[.int .i64 0, .int .i64 N, .int .i64 V, .bool true, .slice addr A.length cap] 40)
    have hb := Blk.new w 40 #[.int .i64 0, .int .i64 N, .int .i64 V, .bool true, .slice addr A.length cap]
    have KV := Lib.hid (variable_any 0 N V true (.slice addr A.length cap) rfl (w.alloc (.cells #[.int .i64 0, .int .i64 N, .int .i64 V, .bool true, .slice addr A.length cap] 40)))
    have KB := Lib.hid (fun W => between_any V (-1000000000000001) 1000000000000001 W (by omega) (by omega) (by omega))
    have eB : -1000000000000001 + V % (1000000000000001 - -1000000000000001 + 1) = betV V := rfl
    rw [eB] at KB
    have KB := KB
    clear eB
    go_enter Tryd.func24, Tryd.ntmps24
    go_wp2_with fail
    refine KV.out.mono ?_
    rintro e w1 ⟨rfl, b1'⟩
    have b1 : Below w.heap.size w w1 := b0.trans (b1'.mono (by simp))
    have hb1 := hb.below b1' (by simp)
    have c0 := hb1.cell' 0 rfl
    have c2' := hb1.cell' 2 rfl
    have c3 := hb1.cell' 3 rfl
    have H1 := Lib.hid (h.below b1)
    have K1 := Lib.hid (k.below b1)
    have hsz1 := b1.size
    clear KV b0 b1' hb
    go_wp2_with fail
    refine (KB.out _).mono ?_
    rintro e w' ⟨rfl, rfl⟩
    clear KB
    have J1 := Lib.hid (get_any (varOf N true) w1 H1.out)
    have J2 := Lib.hid (fun m => rget_any (varOf N true) (w1.drewN m) (K1.out.drewN m))
    generalize getV x.n x.V x.C (varOf N true) = p at *
    obtain ⟨pv, pe⟩ := p
    go_wp2_with fail
    refine J1.out.mono ?_
    rintro e w' ⟨rfl, m, rfl⟩
    go_wp2_with fail
    refine (J2.out m).mono ?_
    rintro e w' ⟨rfl, m2, rfl⟩
    rw [World.drewN_drewN]
    go_wp2_with fail
    go_ret2
    exact ⟨s, g, c, q, c2, rfl, by rw [after0 (by simp) (by simp) (by simp) (by simp)]; exact H1.out, by rw [after0 (by simp) (by simp) (by simp) (by simp)]; exact K1.out, fun _ => rfl, Four.of_below (below_drewN b1 _), .inl rfl, .inl rfl, .inl rfl⟩

set_option maxRecDepth 100000 in
set_option maxHeartbeats 1000000 in
theorem step_set (d : ActD) (x y : SD) {base s g c r q c2 : Nat} (w : World) (h : SAt w base s g c x) (k : TAt w base r q c2 y) (hA : ∀ W', Below base w W' → ArgsAt W' d.addr d.args) (hn : d.args.length ≤ 9223372036854775807) (ht : Lib.TabIs Tryd.prog w "cnc/vars.numbers" .i64 tabNums) (hb0 : 0 < base) (hW : d.what = 1) :
    Calls Tryd.prog 24 #[.pointer (some ⟨s, 0, none⟩), .pointer (some ⟨r, 0, none⟩), .agg d.cells.toArray] w (StepPost d x y base s g r q w) := by
  obtain ⟨W, N, V, near, addr, A, cap⟩ := d
  obtain rfl : W = 1 := hW
  have hw0 := tab_pos ht
  have hbd := h.bounds
  have kbd := k.bounds
  simp only [ActD.cells]
  cases near
  · have b0 := (Below.refl w.heap.size w).alloc (Nat.le_refl _) (.cells #[.int .i64 1, .int .i64 N, .int .i64 V, .bool false, .slice addr A.length cap] 40)
    have hb := Blk.new w 40 #[.int .i64 1, .int .i64 N, .int .i64 V, .bool false, .slice addr A.length cap]
    have KV := Lib.hid (variable_any 1 N V false (.slice addr A.length cap) rfl (w.alloc (.cells #[.int .i64 1, .int .i64 N, .int .i64 V, .bool false, .slice addr A.length cap] 40)))
    go_enter Tryd.func24, Tryd.ntmps24
    go_wp2_with fail
    refine KV.out.mono ?_
    rintro e w1 ⟨rfl, b1'⟩
    have b1 : Below w.heap.size w w1 := b0.trans (b1'.mono (by simp))
    have hb1 := hb.below b1' (by simp)
    have c0 := hb1.cell' 0 rfl
    have c2' := hb1.cell' 2 rfl
    have c3 := hb1.cell' 3 rfl
    have H1 := Lib.hid (h.below b1)
    have K1 := Lib.hid (k.below b1)
    have hsz1 := b1.size
    clear KV b0 b1' hb
    have J1 := Lib.hid (set_any (varOf N false) V w1 H1.out)
    have ap := H1.out.apart K1.out
    go_wp2_with fail
    refine J1.out.mono ?_
    rintro e w2 ⟨rfl, h2, ho⟩
    have k2 := K1.out.other H1.out ho
    have J2 := Lib.hid (rset_any (varOf N false) V w2 k2)
    have H2 : Hid (SAt w2 base s g c (afterS ⟨1, N, V, false, addr, A, cap⟩ x)) := Lib.hid (by rw [after1 rfl]; exact h2)
    have K2 := Lib.hid k2
    have HO := Lib.hid ho
    clear h2 k2 ho J1
    go_wp2_with fail
    refine J2.out.mono ?_
    rintro e w3 ⟨rfl, k3, ho2⟩
    have H3 := Lib.hid (H2.out.other K2.out ho2)
    have K3 : Hid (TAt w3 base r q c2 (afterS ⟨1, N, V, false, addr, A, cap⟩ y)) := Lib.hid (by rw [after1 rfl]; exact k3)
    have F3 := Lib.hid (((Four.of_below (s := s) (g := g) (r := r) (q := q) b1).trans (Four.of_left HO.out)).trans (Four.of_right ho2))
    clear k3 ho2 HO
    go_wp2_with fail
    go_ret2
    exact ⟨s, g, c, q, c2, rfl, H3.out, K3.out, fun _ => rfl, F3.out, .inl rfl, .inl rfl, .inl rfl⟩
  · have b0 := (Below.refl w.heap.size w).alloc (Nat.le_refl _) (.cells #[.int .i64 1, .int .i64 N, .int .i64 V, .bool true, .slice addr A.length cap] 40)
    have hb := Blk.new w 40 #[.int .i64 1, .int .i64 N, .int .i64 V, .bool true, .slice addr A.length cap]
    have KV := Lib.hid (variable_any 1 N V true (.slice addr A.length cap) rfl (w.alloc (.cells #[.int .i64 1, .int .i64 N, .int .i64 V, .bool true, .slice addr A.length cap] 40)))
    have KB := Lib.hid (fun W => between_any V (-1000000000000001) 1000000000000001 W (by omega) (by omega) (by omega))
    have eB : -1000000000000001 + V % (1000000000000001 - -1000000000000001 + 1) = betV V := rfl
    rw [eB] at KB
    have KB := KB
    clear eB
    go_enter Tryd.func24, Tryd.ntmps24
    go_wp2_with fail
    refine KV.out.mono ?_
    rintro e w1 ⟨rfl, b1'⟩
    have b1 : Below w.heap.size w w1 := b0.trans (b1'.mono (by simp))
    have hb1 := hb.below b1' (by simp)
    have c0 := hb1.cell' 0 rfl
    have c2' := hb1.cell' 2 rfl
    have c3 := hb1.cell' 3 rfl
    have H1 := Lib.hid (h.below b1)
    have K1 := Lib.hid (k.below b1)
    have hsz1 := b1.size
    clear KV b0 b1' hb
    go_wp2_with fail
    refine (KB.out _).mono ?_
    rintro e w' ⟨rfl, rfl⟩
    clear KB
    have J1 := Lib.hid (set_any (varOf N true) (betV V) w1 H1.out)
    have ap := H1.out.apart K1.out
    go_wp2_with fail
    refine J1.out.mono ?_
    rintro e w2 ⟨rfl, h2, ho⟩
    have k2 := K1.out.other H1.out ho
    have J2 := Lib.hid (rset_any (varOf N true) (betV V) w2 k2)
    have H2 : Hid (SAt w2 base s g c (afterS ⟨1, N, V, true, addr, A, cap⟩ x)) := Lib.hid (by rw [after1 rfl]; exact h2)
    have K2 := Lib.hid k2
    have HO := Lib.hid ho
    clear h2 k2 ho J1
    go_wp2_with fail
    refine J2.out.mono ?_
    rintro e w3 ⟨rfl, k3, ho2⟩
    have H3 := Lib.hid (H2.out.other K2.out ho2)
    have K3 : Hid (TAt w3 base r q c2 (afterS ⟨1, N, V, true, addr, A, cap⟩ y)) := Lib.hid (by rw [after1 rfl]; exact k3)
    have F3 := Lib.hid (((Four.of_below (s := s) (g := g) (r := r) (q := q) b1).trans (Four.of_left HO.out)).trans (Four.of_right ho2))
    clear k3 ho2 HO
    go_wp2_with fail
    go_ret2
    exact ⟨s, g, c, q, c2, rfl, H3.out, K3.out, fun _ => rfl, F3.out, .inl rfl, .inl rfl, .inl rfl⟩

set_option maxRecDepth 100000 in
set_option maxHeartbeats 1000000 in
theorem step_host (d : ActD) (x y : SD) {base s g c r q c2 : Nat} (w : World) (h : SAt w base s g c x) (k : TAt w base r q c2 y) (hA : ∀ W', Below base w W' → ArgsAt W' d.addr d.args) (hn : d.args.length ≤ 9223372036854775807) (ht : Lib.TabIs Tryd.prog w "cnc/vars.numbers" .i64 tabNums) (hb0 : 0 < base) (hW : d.what = 2) :
    Calls Tryd.prog 24 #[.pointer (some ⟨s, 0, none⟩), .pointer (some ⟨r, 0, none⟩), .agg d.cells.toArray] w (StepPost d x y base s g r q w) := by
  obtain ⟨W, N, V, near, addr, A, cap⟩ := d
  obtain rfl : W = 2 := hW
  have hw0 := tab_pos ht
  have hbd := h.bounds
  have kbd := k.bounds
  simp only [ActD.cells]
  cases near
  · have b0 := (Below.refl w.heap.size w).alloc (Nat.le_refl _) (.cells #[.int .i64 2, .int .i64 N, .int .i64 V, .bool false, .slice addr A.length cap] 40)
    have hb := Blk.new w 40 #[.int .i64 2, .int .i64 N, .int .i64 V, .bool false, .slice addr A.length cap]
    have KV := Lib.hid (variable_any 2 N V false (.slice addr A.length cap) rfl (w.alloc (.cells #[.int .i64 2, .int .i64 N, .int .i64 V, .bool false, .slice addr A.length cap] 40)))
    go_enter Tryd.func24, Tryd.ntmps24
    go_wp2_with fail
    refine KV.out.mono ?_
    rintro e w1 ⟨rfl, b1'⟩
    have b1 : Below w.heap.size w w1 := b0.trans (b1'.mono (by simp))
    have hb1 := hb.below b1' (by simp)
    have c0 := hb1.cell' 0 rfl
    have c2' := hb1.cell' 2 rfl
    have c3 := hb1.cell' 3 rfl
    have H1 := Lib.hid (h.below b1)
    have K1 := Lib.hid (k.below b1)
    have hsz1 := b1.size
    clear KV b0 b1' hb
    have J1 := Lib.hid (host_any (varOf N false) V w1 H1.out)
    have ap := H1.out.apart K1.out
    go_wp2_with fail
    refine J1.out.mono ?_
    rintro e w2 ⟨rfl, h2, ho⟩
    have k2 := K1.out.other H1.out ho
    have J2 := Lib.hid (rhost_any (varOf N false) V w2 k2)
    have H2 : Hid (SAt w2 base s g c (afterS ⟨2, N, V, false, addr, A, cap⟩ x)) := Lib.hid (by rw [after2 rfl]; exact h2)
    have K2 := Lib.hid k2
    have HO := Lib.hid ho
    clear h2 k2 ho J1
    go_wp2_with fail
    refine J2.out.mono ?_
    rintro e w3 ⟨rfl, k3, ho2⟩
    have H3 := Lib.hid (H2.out.other K2.out ho2)
    have K3 : Hid (TAt w3 base r q c2 (afterS ⟨2, N, V, false, addr, A, cap⟩ y)) := Lib.hid (by rw [after2 rfl]; exact k3)
    have F3 := Lib.hid (((Four.of_below (s := s) (g := g) (r := r) (q := q) b1).trans (Four.of_left HO.out)).trans (Four.of_right ho2))
    clear k3 ho2 HO
    go_wp2_with fail
    go_ret2
    exact ⟨s, g, c, q, c2, rfl, H3.out, K3.out, fun _ => rfl, F3.out, .inl rfl, .inl rfl, .inl rfl⟩
  · have b0 := (Below.refl w.heap.size w).alloc (Nat.le_refl _) (.cells #[.int .i64 2, .int .i64 N, .int .i64 V, .bool true, .slice addr A.length cap] 40)
    have hb := Blk.new w 40 #[.int .i64 2, .int .i64 N, .int .i64 V, .bool true, .slice addr A.length cap]
    have KV := Lib.hid (variable_any 2 N V true (.slice addr A.length cap) rfl (w.alloc (.cells #[.int .i64 2, .int .i64 N, .int .i64 V, .bool true, .slice addr A.length cap] 40)))
    have KB := Lib.hid (fun W => between_any V (-1000000000000001) 1000000000000001 W (by omega) (by omega) (by omega))
    have eB : -1000000000000001 + V % (1000000000000001 - -1000000000000001 + 1) = betV V := rfl
    rw [eB] at KB
    have KB := KB
    clear eB
    go_enter Tryd.func24, Tryd.ntmps24
    go_wp2_with fail
    refine KV.out.mono ?_
    rintro e w1 ⟨rfl, b1'⟩
    have b1 : Below w.heap.size w w1 := b0.trans (b1'.mono (by simp))
    have hb1 := hb.below b1' (by simp)
    have c0 := hb1.cell' 0 rfl
    have c2' := hb1.cell' 2 rfl
    have c3 := hb1.cell' 3 rfl
    have H1 := Lib.hid (h.below b1)
    have K1 := Lib.hid (k.below b1)
    have hsz1 := b1.size
    clear KV b0 b1' hb
    go_wp2_with fail
    refine (KB.out _).mono ?_
    rintro e w' ⟨rfl, rfl⟩
    clear KB
    have J1 := Lib.hid (host_any (varOf N true) (betV V) w1 H1.out)
    have ap := H1.out.apart K1.out
    go_wp2_with fail
    refine J1.out.mono ?_
    rintro e w2 ⟨rfl, h2, ho⟩
    have k2 := K1.out.other H1.out ho
    have J2 := Lib.hid (rhost_any (varOf N true) (betV V) w2 k2)
    have H2 : Hid (SAt w2 base s g c (afterS ⟨2, N, V, true, addr, A, cap⟩ x)) := Lib.hid (by rw [after2 rfl]; exact h2)
    have K2 := Lib.hid k2
    have HO := Lib.hid ho
    clear h2 k2 ho J1
    go_wp2_with fail
    refine J2.out.mono ?_
    rintro e w3 ⟨rfl, k3, ho2⟩
    have H3 := Lib.hid (H2.out.other K2.out ho2)
    have K3 : Hid (TAt w3 base r q c2 (afterS ⟨2, N, V, true, addr, A, cap⟩ y)) := Lib.hid (by rw [after2 rfl]; exact k3)
    have F3 := Lib.hid (((Four.of_below (s := s) (g := g) (r := r) (q := q) b1).trans (Four.of_left HO.out)).trans (Four.of_right ho2))
    clear k3 ho2 HO
    go_wp2_with fail
    go_ret2
    exact ⟨s, g, c, q, c2, rfl, H3.out, K3.out, fun _ => rfl, F3.out, .inl rfl, .inl rfl, .inl rfl⟩

set_option maxRecDepth 100000 in
set_option maxHeartbeats 1000000 in
theorem step_pop (d : ActD) (x : SD) {base s g c r q c2 : Nat} (w : World) (h : SAt w base s g c x) (k : TAt w base r q c2 x) (hA : ∀ W', Below base w W' → ArgsAt W' d.addr d.args) (hn : d.args.length ≤ 9223372036854775807) (ht : Lib.TabIs Tryd.prog w "cnc/vars.numbers" .i64 tabNums) (hb0 : 0 < base) (hW : d.what = 4) :
    Calls Tryd.prog 24 #[.pointer (some ⟨s, 0, none⟩), .pointer (some ⟨r, 0, none⟩), .agg d.cells.toArray] w (StepPost d x x base s g r q w) := by
  obtain ⟨W, N, V, near, addr, A, cap⟩ := d
  obtain rfl : W = 4 := hW
  have hw0 := tab_pos ht
  have hbd := h.bounds
  have kbd := k.bounds
  simp only [ActD.cells]
  cases near
  · have b0 := (Below.refl w.heap.size w).alloc (Nat.le_refl _) (.cells #[.int .i64 4, .int .i64 N, .int .i64 V, .bool false, .slice addr A.length cap] 40)
    have hb := Blk.new w 40 #[.int .i64 4, .int .i64 N, .int .i64 V, .bool false, .slice addr A.length cap]
    have KV := Lib.hid (variable_any 4 N V false (.slice addr A.length cap) rfl (w.alloc (.cells #[.int .i64 4, .int .i64 N, .int .i64 V, .bool false, .slice addr A.length cap] 40)))
    go_enter Tryd.func24, Tryd.ntmps24
    go_wp2_with fail
    refine KV.out.mono ?_
    rintro e w1 ⟨rfl, b1'⟩
    have b1 : Below w.heap.size w w1 := b0.trans (b1'.mono (by simp))
    have hb1 := hb.below b1' (by simp)
    have c0 := hb1.cell' 0 rfl
    have c2' := hb1.cell' 2 rfl
    have c3 := hb1.cell' 3 rfl
    have H1 := Lib.hid (h.below b1)
    have K1 := Lib.hid (k.below b1)
    have hsz1 := b1.size
    clear KV b0 b1' hb
    have J1 := Lib.hid (pop_any w1 H1.out)
    have hn1 : 1 ≤ x.n := h.2.2.2.2.1
    by_cases en : x.n = 1
    · go_wp2_with fail
      refine J1.out.mono ?_
      rintro e w2 ⟨ho, hp⟩
      have hp := hp.1 en
      obtain ⟨rfl, h2⟩ := hp
      have k2 := K1.out.other H1.out ho
      have J2 := Lib.hid (rpop_any w2 k2)
      have e4 : afterS ⟨4, N, V, false, addr, A, cap⟩ x = x := by rw [after4 rfl, if_pos en]
      have H2 : Hid (SAt w2 base s g c (afterS ⟨4, N, V, false, addr, A, cap⟩ x)) := Lib.hid (by rw [e4]; exact h2)
      have E4 := Lib.hid e4
      have K2 := Lib.hid k2
      have HO := Lib.hid ho
      have EN := Lib.hid en
      clear h2 k2 ho J1 e4 en
      go_wp2_with fail
      refine J2.out.mono ?_
      rintro e w3 ⟨ho2, kp⟩
      have kp := kp.1 EN.out
      obtain ⟨rfl, k3⟩ := kp
      have H3 := Lib.hid (H2.out.other K2.out ho2)
      have K3 : Hid (TAt w3 base r q c2 (afterS ⟨4, N, V, false, addr, A, cap⟩ x)) := Lib.hid (by rw [E4.out]; exact k3)
      have F3 := Lib.hid (((Four.of_below (s := s) (g := g) (r := r) (q := q) b1).trans (Four.of_left HO.out)).trans (Four.of_right ho2))
      have hsz2 := HO.out.size
      clear k3 ho2 HO
      go_wp2_with fail
      go_ret2
      exact ⟨s, g, c, q, c2, rfl, H3.out, K3.out, fun _ => rfl, F3.out, .inl rfl, .inl rfl, .inl rfl⟩
    · go_wp2_with fail
      refine J1.out.mono ?_
      rintro e w2 ⟨ho, hp⟩
      have hp := hp.2 (by omega)
      obtain ⟨rfl, h2⟩ := hp
      have k2 := K1.out.other H1.out ho
      have J2 := Lib.hid (rpop_any w2 k2)
      have e4 : afterS ⟨4, N, V, false, addr, A, cap⟩ x = ⟨x.n - 1, x.V.take ((x.n - 1) * 33), x.C⟩ := by rw [after4 rfl, if_neg en]
      have H2 : Hid (SAt w2 base s g c (afterS ⟨4, N, V, false, addr, A, cap⟩ x)) := Lib.hid (by rw [e4]; exact h2)
      have E4 := Lib.hid e4
      have K2 := Lib.hid k2
      have HO := Lib.hid ho
      have EN := Lib.hid en
      clear h2 k2 ho J1 e4 en
      go_wp2_with fail
      refine J2.out.mono ?_
      rintro e w3 ⟨ho2, kp⟩
      have kp := kp.2 (by have := EN.out; omega)
      obtain ⟨rfl, q', c2', hq, k3⟩ := kp
      have H3 := Lib.hid (H2.out.other K2.out ho2)
      have K3 : Hid (TAt w3 base r q' c2' (afterS ⟨4, N, V, false, addr, A, cap⟩ x)) := Lib.hid (by rw [E4.out]; exact k3)
      have F3 := Lib.hid (((Four.of_below (s := s) (g := g) (r := r) (q := q) b1).trans (Four.of_left HO.out)).trans (Four.of_right ho2))
      have hsz2 := HO.out.size
      clear k3 ho2 HO
      go_wp2_with fail
      go_ret2
      exact ⟨s, g, c, q', c2', rfl, H3.out, K3.out, fun _ => rfl, F3.out, .inl rfl, .inl rfl, .inr (by omega)⟩
  · have b0 := (Below.refl w.heap.size w).alloc (Nat.le_refl _) (.cells #[.int .i64 4, .int .i64 N, .int .i64 V, .bool true, .slice addr A.length cap] 40)
    have hb := Blk.new w 40 #[.int .i64 4, .int .i64 N, .int .i64 V, .bool true, .slice addr A.length cap]
    have KV := Lib.hid (variable_any 4 N V true (.slice addr A.length cap) rfl (w.alloc (.cells #[.int .i64 4, .int .i64 N, .int .i64 V, .bool true, .slice addr A.length cap] 40)))
    have KB := Lib.hid (fun W => between_any V (-1000000000000001) 1000000000000001 W (by omega) (by omega) (by omega))
    have eB : -1000000000000001 + V % (1000000000000001 - -1000000000000001 + 1) = betV V := rfl
    rw [eB] at KB
    have KB := KB
    clear eB
    go_enter Tryd.func24, Tryd.ntmps24
    go_wp2_with fail
    refine KV.out.mono ?_
    rintro e w1 ⟨rfl, b1'⟩
    have b1 : Below w.heap.size w w1 := b0.trans (b1'.mono (by simp))
    have hb1 := hb.below b1' (by simp)
    have c0 := hb1.cell' 0 rfl
    have c2' := hb1.cell' 2 rfl
    have c3 := hb1.cell' 3 rfl
    have H1 := Lib.hid (h.below b1)
    have K1 := Lib.hid (k.below b1)
    have hsz1 := b1.size
    clear KV b0 b1' hb
    go_wp2_with fail
    refine (KB.out _).mono ?_
    rintro e w' ⟨rfl, rfl⟩
    clear KB
    have J1 := Lib.hid (pop_any w1 H1.out)
    have hn1 : 1 ≤ x.n := h.2.2.2.2.1
    by_cases en : x.n = 1
    · go_wp2_with fail
      refine J1.out.mono ?_
      rintro e w2 ⟨ho, hp⟩
      have hp := hp.1 en
      obtain ⟨rfl, h2⟩ := hp
      have k2 := K1.out.other H1.out ho
      have J2 := Lib.hid (rpop_any w2 k2)
      have e4 : afterS ⟨4, N, V, true, addr, A, cap⟩ x = x := by rw [after4 rfl, if_pos en]
      have H2 : Hid (SAt w2 base s g c (afterS ⟨4, N, V, true, addr, A, cap⟩ x)) := Lib.hid (by rw [e4]; exact h2)
      have E4 := Lib.hid e4
      have K2 := Lib.hid k2
      have HO := Lib.hid ho
      have EN := Lib.hid en
      clear h2 k2 ho J1 e4 en
      go_wp2_with fail
      refine J2.out.mono ?_
      rintro e w3 ⟨ho2, kp⟩
      have kp := kp.1 EN.out
      obtain ⟨rfl, k3⟩ := kp
      have H3 := Lib.hid (H2.out.other K2.out ho2)
      have K3 : Hid (TAt w3 base r q c2 (afterS ⟨4, N, V, true, addr, A, cap⟩ x)) := Lib.hid (by rw [E4.out]; exact k3)
      have F3 := Lib.hid (((Four.of_below (s := s) (g := g) (r := r) (q := q) b1).trans (Four.of_left HO.out)).trans (Four.of_right ho2))
      have hsz2 := HO.out.size
      clear k3 ho2 HO
      go_wp2_with fail
      go_ret2
      exact ⟨s, g, c, q, c2, rfl, H3.out, K3.out, fun _ => rfl, F3.out, .inl rfl, .inl rfl, .inl rfl⟩
    · go_wp2_with fail
      refine J1.out.mono ?_
      rintro e w2 ⟨ho, hp⟩
      have hp := hp.2 (by omega)
      obtain ⟨rfl, h2⟩ := hp
      have k2 := K1.out.other H1.out ho
      have J2 := Lib.hid (rpop_any w2 k2)
      have e4 : afterS ⟨4, N, V, true, addr, A, cap⟩ x = ⟨x.n - 1, x.V.take ((x.n - 1) * 33), x.C⟩ := by rw [after4 rfl, if_neg en]
      have H2 : Hid (SAt w2 base s g c (afterS ⟨4, N, V, true, addr, A, cap⟩ x)) := Lib.hid (by rw [e4]; exact h2)
      have E4 := Lib.hid e4
      have K2 := Lib.hid k2
      have HO := Lib.hid ho
      have EN := Lib.hid en
      clear h2 k2 ho J1 e4 en
      go_wp2_with fail
      refine J2.out.mono ?_
      rintro e w3 ⟨ho2, kp⟩
      have kp := kp.2 (by have := EN.out; omega)
      obtain ⟨rfl, q', c2', hq, k3⟩ := kp
      have H3 := Lib.hid (H2.out.other K2.out ho2)
      have K3 : Hid (TAt w3 base r q' c2' (afterS ⟨4, N, V, true, addr, A, cap⟩ x)) := Lib.hid (by rw [E4.out]; exact k3)
      have F3 := Lib.hid (((Four.of_below (s := s) (g := g) (r := r) (q := q) b1).trans (Four.of_left HO.out)).trans (Four.of_right ho2))
      have hsz2 := HO.out.size
      clear k3 ho2 HO
      go_wp2_with fail
      go_ret2
      exact ⟨s, g, c, q', c2', rfl, H3.out, K3.out, fun _ => rfl, F3.out, .inl rfl, .inl rfl, .inr (by omega)⟩

set_option maxRecDepth 100000 in
set_option maxHeartbeats 1000000 in
theorem step_copy (d : ActD) (x : SD) {base s g c r q c2 : Nat} (w : World) (h : SAt w base s g c x) (k : TAt w base r q c2 x) (hA : ∀ W', Below base w W' → ArgsAt W' d.addr d.args) (hn : d.args.length ≤ 9223372036854775807) (ht : Lib.TabIs Tryd.prog w "cnc/vars.numbers" .i64 tabNums) (hb0 : 0 < base) (hW : d.what = 5) :
    Calls Tryd.prog 24 #[.pointer (some ⟨s, 0, none⟩), .pointer (some ⟨r, 0, none⟩), .agg d.cells.toArray] w (StepPost d x x base s g r q w) := by
  obtain ⟨W, N, V, near, addr, A, cap⟩ := d
  obtain rfl : W = 5 := hW
  have hw0 := tab_pos ht
  have hbd := h.bounds
  have kbd := k.bounds
  simp only [ActD.cells]
  cases near
  · have b0 := (Below.refl w.heap.size w).alloc (Nat.le_refl _) (.cells #[.int .i64 5, .int .i64 N, .int .i64 V, .bool false, .slice addr A.length cap] 40)
    have hb := Blk.new w 40 #[.int .i64 5, .int .i64 N, .int .i64 V, .bool false, .slice addr A.length cap]
    have KV := Lib.hid (variable_any 5 N V false (.slice addr A.length cap) rfl (w.alloc (.cells #[.int .i64 5, .int .i64 N, .int .i64 V, .bool false, .slice addr A.length cap] 40)))
    go_enter Tryd.func24, Tryd.ntmps24
    go_wp2_with fail
    refine KV.out.mono ?_
    rintro e w1 ⟨rfl, b1'⟩
    have b1 : Below w.heap.size w w1 := b0.trans (b1'.mono (by simp))
    have hb1 := hb.below b1' (by simp)
    have c0 := hb1.cell' 0 rfl
    have c2' := hb1.cell' 2 rfl
    have c3 := hb1.cell' 3 rfl
    have H1 := Lib.hid (h.below b1)
    have K1 := Lib.hid (k.below b1)
    have hsz1 := b1.size
    clear KV b0 b1' hb
    have J1 := Lib.hid (copy_any w1 H1.out)
    go_wp2_with fail
    refine J1.out.mono ?_
    rintro e w2 ⟨s', g', c', rfl, h2, b2⟩
    have H2 : Hid (SAt w2 base s' g' c' (afterS ⟨5, N, V, false, addr, A, cap⟩ x)) := Lib.hid (by rw [after0 (by simp) (by simp) (by simp) (by simp)]; exact SAt.lower h2 (by omega))
    have K2 : Hid (TAt w2 base r q c2 (afterS ⟨5, N, V, false, addr, A, cap⟩ x)) := Lib.hid (by rw [after0 (by simp) (by simp) (by simp) (by simp)]; exact K1.out.below b2)
    have F2 := Lib.hid ((Four.of_below (s := s) (g := g) (r := r) (q := q) b1).trans (Four.of_below b2))
    have hs' : w1.heap.size ≤ s' := h2.2.2.2.1
    have hg' : w1.heap.size ≤ g' := h2.baseg.1
    clear h2 b2 J1
    go_wp2_with fail
    go_ret2
    exact ⟨s', g', c', q, c2, rfl, H2.out, K2.out, fun e => absurd rfl e, F2.out, .inr (by omega), .inr (by omega), .inl rfl⟩
  · have b0 := (Below.refl w.heap.size w).alloc (Nat.le_refl _) (.cells #[.int .i64 5, .int .i64 N, .int .i64 V, .bool true, .slice addr A.length cap] 40)
    have hb := Blk.new w 40 #[.int .i64 5, .int .i64 N, .int .i64 V, .bool true, .slice addr A.length cap]
    have KV := Lib.hid (variable_any 5 N V true (.slice addr A.length cap) rfl (w.alloc (.cells #[.int .i64 5, .int .i64 N, .int .i64 V, .bool true, .slice addr A.length cap] 40)))
    have KB := Lib.hid (fun W => between_any V (-1000000000000001) 1000000000000001 W (by omega) (by omega) (by omega))
    have eB : -1000000000000001 + V % (1000000000000001 - -1000000000000001 + 1) = betV V := rfl
    rw [eB] at KB
    have KB := KB
    clear eB
    go_enter Tryd.func24, Tryd.ntmps24
    go_wp2_with fail
    refine KV.out.mono ?_
    rintro e w1 ⟨rfl, b1'⟩
    have b1 : Below w.heap.size w w1 := b0.trans (b1'.mono (by simp))
    have hb1 := hb.below b1' (by simp)
    have c0 := hb1.cell' 0 rfl
    have c2' := hb1.cell' 2 rfl
    have c3 := hb1.cell' 3 rfl
    have H1 := Lib.hid (h.below b1)
    have K1 := Lib.hid (k.below b1)
    have hsz1 := b1.size
    clear KV b0 b1' hb
    go_wp2_with fail
    refine (KB.out _).mono ?_
    rintro e w' ⟨rfl, rfl⟩
    clear KB
    have J1 := Lib.hid (copy_any w1 H1.out)
    go_wp2_with fail
    refine J1.out.mono ?_
    rintro e w2 ⟨s', g', c', rfl, h2, b2⟩
    have H2 : Hid (SAt w2 base s' g' c' (afterS ⟨5, N, V, true, addr, A, cap⟩ x)) := Lib.hid (by rw [after0 (by simp) (by simp) (by simp) (by simp)]; exact SAt.lower h2 (by omega))
    have K2 : Hid (TAt w2 base r q c2 (afterS ⟨5, N, V, true, addr, A, cap⟩ x)) := Lib.hid (by rw [after0 (by simp) (by simp) (by simp) (by simp)]; exact K1.out.below b2)
    have F2 := Lib.hid ((Four.of_below (s := s) (g := g) (r := r) (q := q) b1).trans (Four.of_below b2))
    have hs' : w1.heap.size ≤ s' := h2.2.2.2.1
    have hg' : w1.heap.size ≤ g' := h2.baseg.1
    clear h2 b2 J1
    go_wp2_with fail
    go_ret2
    exact ⟨s', g', c', q, c2, rfl, H2.out, K2.out, fun e => absurd rfl e, F2.out, .inr (by omega), .inr (by omega), .inl rfl⟩

set_option maxRecDepth 100000 in
set_option maxHeartbeats 1000000 in
theorem step_else (d : ActD) (x : SD) {base s g c r q c2 : Nat} (w : World) (h : SAt w base s g c x) (k : TAt w base r q c2 x) (hA : ∀ W', Below base w W' → ArgsAt W' d.addr d.args) (hn : d.args.length ≤ 9223372036854775807) (ht : Lib.TabIs Tryd.prog w "cnc/vars.numbers" .i64 tabNums) (hb0 : 0 < base) (hW : d.what ≠ 0 ∧ d.what ≠ 1 ∧ d.what ≠ 2 ∧ d.what ≠ 3 ∧ d.what ≠ 4 ∧ d.what ≠ 5) :
    Calls Tryd.prog 24 #[.pointer (some ⟨s, 0, none⟩), .pointer (some ⟨r, 0, none⟩), .agg d.cells.toArray] w (StepPost d x x base s g r q w) := by
  obtain ⟨W, N, V, near, addr, A, cap⟩ := d
  obtain ⟨f0, f1, f2, f3, f4, f5⟩ := hW
  simp only at f0 f1 f2 f3 f4 f5
  have g0 : (W == 0) = false := by simpa using f0
  have g1 : (W == 1) = false := by simpa using f1
  have g2 : (W == 2) = false := by simpa using f2
  have g3 : (W == 3) = false := by simpa using f3
  have g4 : (W == 4) = false := by simpa using f4
  have g5 : (W == 5) = false := by simpa using f5
  have hw0 := tab_pos ht
  have hbd := h.bounds
  have kbd := k.bounds
  simp only [ActD.cells]
  cases near
  · have b0 := (Below.refl w.heap.size w).alloc (Nat.le_refl _) (.cells #[.int .i64 W, .int .i64 N, .int .i64 V, .bool false, .slice addr A.length cap] 40)
    have hb := Blk.new w 40 #[.int .i64 W, .int .i64 N, .int .i64 V, .bool false, .slice addr A.length cap]
    have KV := Lib.hid (variable_any W N V false (.slice addr A.length cap) rfl (w.alloc (.cells #[.int .i64 W, .int .i64 N, .int .i64 V, .bool false, .slice addr A.length cap] 40)))
    go_enter Tryd.func24, Tryd.ntmps24
    go_wp2_with fail
    refine KV.out.mono ?_
    rintro e w1 ⟨rfl, b1'⟩
    have b1 : Below w.heap.size w w1 := b0.trans (b1'.mono (by simp))
    have hb1 := hb.below b1' (by simp)
    have c0 := hb1.cell' 0 rfl
    have c2' := hb1.cell' 2 rfl
    have c3 := hb1.cell' 3 rfl
    have H1 := Lib.hid (h.below b1)
    have K1 := Lib.hid (k.below b1)
    have hsz1 := b1.size
    clear KV b0 b1' hb
    go_wp2_with fail
    go_ret2
    exact ⟨s, g, c, q, c2, rfl, by rw [after0 f1 f2 f3 f4]; exact H1.out, by rw [after0 f1 f2 f3 f4]; exact K1.out, fun _ => rfl, Four.of_below b1, .inl rfl, .inl rfl, .inl rfl⟩
  · have b0 := (Below.refl w.heap.size w).alloc (Nat.le_refl _) (.cells #[.int .i64 W, .int .i64 N, .int .i64 V, .bool true, .slice addr A.length cap] 40)
    have hb := Blk.new w 40 #[.int .i64 W, .int .i64 N, .int .i64 V, .bool true, .slice addr A.length cap]
    have KV := Lib.hid (variable_any W N V true (.slice addr A.length cap) rfl (w.alloc (.cells #[.int .i64 W, .int .i64 N, .int .i64 V, .bool true, .slice addr A.length cap] 40)))
    have KB := Lib.hid (fun W => between_any V (-1000000000000001) 1000000000000001 W (by omega) (by omega) (by omega))
    have eB : -1000000000000001 + V % (1000000000000001 - -1000000000000001 + 1) = betV V := rfl
    rw [eB] at KB
    have KB := KB
    clear eB
    go_enter Tryd.func24, Tryd.ntmps24
    go_wp2_with fail
    refine KV.out.mono ?_
    rintro e w1 ⟨rfl, b1'⟩
    have b1 : Below w.heap.size w w1 := b0.trans (b1'.mono (by simp))
    have hb1 := hb.below b1' (by simp)
    have c0 := hb1.cell' 0 rfl
    have c2' := hb1.cell' 2 rfl
    have c3 := hb1.cell' 3 rfl
    have H1 := Lib.hid (h.below b1)
    have K1 := Lib.hid (k.below b1)
    have hsz1 := b1.size
    clear KV b0 b1' hb
    go_wp2_with fail
    refine (KB.out _).mono ?_
    rintro e w' ⟨rfl, rfl⟩
    clear KB
    go_wp2_with fail
    go_ret2
    exact ⟨s, g, c, q, c2, rfl, by rw [after0 f1 f2 f3 f4]; exact H1.out, by rw [after0 f1 f2 f3 f4]; exact K1.out, fun _ => rfl, Four.of_below b1, .inl rfl, .inl rfl, .inl rfl⟩
end Go.Proofs.YtdbhkpkndfhcoaaDoor
