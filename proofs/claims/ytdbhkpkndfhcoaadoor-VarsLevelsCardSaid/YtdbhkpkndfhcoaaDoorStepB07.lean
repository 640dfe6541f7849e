/-
  cnclaw07.step: an act on both stores: what it returns and leaves. Stores of 1 to 9 levels; an act whose arguments lie in memory.
-/
import Derived.Test.YtdbhkpkndfhcoaaDoorStepA07
namespace Go.Proofs.YtdbhkpkndfhcoaaDoor
open Go Go.RowKit
set_option linter.unusedVariables false


theorem push_u {d : ActD} {x : SD} {base s g c : Nat} {w w' : World} {e : Ending} (hW : d.what = 3) (hn : x.n ≤ 9) (h : PushPost base s g c x.n x.V x.C (argsOf d) w e w') :
    e = .returned (.int .i64 (pushE d x.n)) ∧ Only s g w w' ∧ ∃ g' c', (g' = g ∨ w.heap.size ≤ g') ∧ SAt w' base s g' c' (afterS d x) := by
  rw [after3 hW]
  unfold pushE
  by_cases h9 : x.n = 9
  · obtain ⟨he, hs, ho⟩ := h.1 h9
    rw [if_pos h9, if_pos h9]
    exact ⟨he, ho, g, c, .inl rfl, hs⟩
  · obtain ⟨he, ho, h1, h2⟩ := h.2 (by omega)
    rw [if_neg h9, if_neg h9]
    refine ⟨he, ho, ?_⟩
    by_cases hz : (scanD d).1 = 0
    · rw [if_pos hz]
      obtain ⟨g', c', hg, hs⟩ := h2 hz
      exact ⟨g', c', hg, hs⟩
    · rw [if_neg hz]
      exact ⟨g, c, .inl rfl, h1 hz⟩
theorem rpush_u {d : ActD} {x : SD} {base s g c : Nat} {w w' : World} {e : Ending} (hW : d.what = 3) (hn : x.n ≤ 9) (h : RPushPost base s g c x.n x.V x.C (argsOf d) w e w') :
    e = .returned (.int .i64 (pushE d x.n)) ∧ Only s g w w' ∧ ∃ g' c', (g' = g ∨ w.heap.size ≤ g') ∧ TAt w' base s g' c' (afterS d x) := by
  rw [after3 hW]
  unfold pushE
  by_cases h9 : x.n = 9
  · obtain ⟨he, hs, ho⟩ := h.1 h9
    rw [if_pos h9, if_pos h9]
    exact ⟨he, ho, g, c, .inl rfl, hs⟩
  · obtain ⟨he, ho, h1, h2⟩ := h.2 (by omega)
    rw [if_neg h9, if_neg h9]
    refine ⟨he, ho, ?_⟩
    by_cases hz : (scanD d).1 = 0
    · rw [if_pos hz]
      obtain ⟨g', c', hg, hs⟩ := h2 hz
      exact ⟨g', c', .inr hg, hs⟩
    · rw [if_neg hz]
      exact ⟨g, c, .inl rfl, h1 hz⟩

set_option maxRecDepth 100000 in
set_option maxHeartbeats 1000000 in
theorem step_push (d : ActD) (x : SD) {base s g c r q c2 : Nat} (w : World) (h : SAt w base s g c x) (k : TAt w base r q c2 x) (hA : ∀ W', Below base w W' → ArgsAt W' d.addr d.args) (hn : d.args.length ≤ 9223372036854775807) (ht : Lib.TabIs Tryd.prog w "cnc/vars.numbers" .i64 tabNums) (hb0 : 0 < base) (hW : d.what = 3) :
    Calls Tryd.prog 24 #[.pointer (some ⟨s, 0, none⟩), .pointer (some ⟨r, 0, none⟩), .agg d.cells.toArray] w (StepPost d x x base s g r q w) := by
  obtain ⟨W, N, V, near, addr, A, cap⟩ := d
  obtain rfl : W = 3 := hW
  have hw0 := tab_pos ht
  have hbd := h.bounds
  have kbd := k.bounds
  simp only [ActD.cells]
  cases near
  · have b0 := (Below.refl w.heap.size w).alloc (Nat.le_refl _) (.cells #[.int .i64 3, .int .i64 N, .int .i64 V, .bool false, .slice addr A.length cap] 40)
    have hb := Blk.new w 40 #[.int .i64 3, .int .i64 N, .int .i64 V, .bool false, .slice addr A.length cap]
    have KV := Lib.hid (variable_any 3 N V false (.slice addr A.length cap) rfl (w.alloc (.cells #[.int .i64 3, .int .i64 N, .int .i64 V, .bool false, .slice addr A.length cap] 40)))
    go_enter Tryd.func24, Tryd.ntmps24
    go_wp2_with fail
    refine KV.out.mono ?_
    rintro e w1 ⟨rfl, b1'⟩
    have b1 : Below w.heap.size w w1 := b0.trans (b1'.mono (by simp))
    have hb1 := hb.below b1' (by simp)
    have c0 := hb1.cell' 0 rfl
    have c2' := hb1.cell' 2 rfl
    have c3 := hb1.cell' 3 rfl
    have H1 := Lib.hid (h.below b1)
    have K1 := Lib.hid (k.below b1)
    have hsz1 := b1.size
    clear KV b0 b1' hb
    have AL := Lib.hid (argsOf_len ⟨3, N, V, false, addr, A, cap⟩ hn)
    have hx9 : x.n ≤ 9 := h.2.2.2.2.2
    have PA := Lib.hid (fun W' (hb : Below base w W') => actargs_any ⟨3, N, V, false, addr, A, cap⟩ W' (hA W' hb) hn)
    have hB : base ≤ w.heap.size := by omega
    clear hA
    go_wp2_with fail
    refine wp_region_held_drew (S := fun w' => Blk w' w.heap.size 40 #[.int .i64 3, .int .i64 N, .int .i64 V, .bool false, .slice addr A.length cap]) (by kernel_rfl) hb1.drew fun hS0 => ?_
    refine take_first 0 (v := .pointer (some ⟨s, 0, none⟩)) rfl (by kernel_rfl) (by kernel_rfl) (by kernel_rfl) (fun _ _ _ h => h) rfl (fun W' hW' => by go_simp) hS0 ?_
    refine take_first 1 (v := .pointer (some ⟨s, 0, none⟩)) rfl (by kernel_rfl) (by kernel_rfl) (by kernel_rfl) (fun _ _ _ h => h) rfl (fun W' hW' => by go_simp) hS0 ?_
    refine take_first 2 (v := .agg #[.int .i64 3, .int .i64 N, .int .i64 V, .bool false, .slice addr A.length cap]) rfl (by kernel_rfl) (by kernel_rfl) (by kernel_rfl) (fun _ _ _ h => h) rfl (fun W' hW' => by exact exec_row 40 (.tmp 5) rfl ⟨w.heap.size, 0, none⟩ _ (by go_simp) (run_loadAt_mid _ w.heap.size 0 40 [.int .i64 3, .int .i64 N, .int .i64 V, .bool false, .slice addr A.length cap] _ (act_range hW') Tryd.underlying40 rfl (by kernel_rfl))) hS0 ?_
    refine take_first 5 (v := .pointer (some ⟨r, 0, none⟩)) rfl (by kernel_rfl) (by kernel_rfl) (by kernel_rfl) (fun _ _ _ h => h) rfl (fun W' hW' => by go_simp) hS0 ?_
    refine take_first 6 (v := .agg #[.int .i64 3, .int .i64 N, .int .i64 V, .bool false, .slice addr A.length cap]) rfl (by kernel_rfl) (by kernel_rfl) (by kernel_rfl) (fun _ _ _ h => h) rfl (fun W' hW' => by exact exec_row 40 (.tmp 5) rfl ⟨w.heap.size, 0, none⟩ _ (by go_simp) (run_loadAt_mid _ w.heap.size 0 40 [.int .i64 3, .int .i64 N, .int .i64 V, .bool false, .slice addr A.length cap] _ (act_range hW') Tryd.underlying40 rfl (by kernel_rfl))) hS0 ?_
    refine one_next 3 (by kernel_rfl) rfl rfl fun K3 hK3 => ?_
    have HK3 := Lib.hid hK3
    clear hK3
    go_simp
    have b1d : Below w.heap.size w w1.drew := below_drewN b1 1
    refine (PA.out _ (b1d.mono hB)).mono ?_
    rintro e wa ⟨a', cp', rfl, hAa, ba0⟩
    have ba : Below w1.heap.size w1 wa := (below_drewN (Below.refl w1.heap.size w1) 1).trans ba0
    clear ba0
    have bA : Below w.heap.size w wa := b1.trans (ba.mono hsz1)
    have hsza := bA.size
    have hba := hb1.below ba hb1.lt
    have ha := SAt.below H1.out ba
    have ka := TAt.below K1.out ba
    have ta := tab_below ht bA hw0
    refine HK3.out _ _ hba ?_
    refine one_next 4 (by kernel_rfl) rfl rfl fun K4 hK4 => ?_
    have HK4 := Lib.hid hK4
    clear hK4
    go_simp
    refine (push_any a' (argsOf ⟨3, N, V, false, addr, A, cap⟩) cp' wa ha hAa AL.out ta hb0).mono ?_
    rintro e w2 hp
    obtain ⟨rfl, ho, g', c', hg', h2⟩ := push_u (d := ⟨3, N, V, false, addr, A, cap⟩) rfl hx9 hp
    have k2 := ka.other ha ho
    have hb2 : Blk w2 w.heap.size 40 #[.int .i64 3, .int .i64 N, .int .i64 V, .bool false, .slice addr A.length cap] := (ho.block _ hba.lt (by omega) (by omega)).trans hba
    have bB : Below base w w2 := (bA.mono hB).trans (ho.below (by omega) (by omega) (by omega))
    have hsz2 := ho.size
    clear hp
    refine HK4.out _ _ hb2 ?_
    refine one_next 7 (by kernel_rfl) rfl rfl fun K7 hK7 => ?_
    have HK7 := Lib.hid hK7
    clear hK7
    go_simp
    refine (PA.out _ bB).mono ?_
    rintro e wb ⟨a2, cp2, rfl, hAb, bb⟩
    have hbb := hb2.below bb hb2.lt
    have h3 := h2.below bb
    have k3 := k2.below bb
    have hszb := bb.size
    refine HK7.out _ _ hbb ?_
    refine one_next 8 (by kernel_rfl) rfl rfl fun K8 hK8 => ?_
    have HK8 := Lib.hid hK8
    clear hK8
    go_simp
    refine (rpush_any a2 (argsOf ⟨3, N, V, false, addr, A, cap⟩) cp2 wb k3 hAb AL.out).mono ?_
    rintro e w3 hp
    obtain ⟨rfl, ho2, q', c2', hq', k4⟩ := rpush_u (d := ⟨3, N, V, false, addr, A, cap⟩) rfl hx9 hp
    have h4 := h3.other k3 ho2
    have hb4 : Blk w3 w.heap.size 40 #[.int .i64 3, .int .i64 N, .int .i64 V, .bool false, .slice addr A.length cap] := (ho2.block _ hbb.lt (by omega) (by omega)).trans hbb
    clear hp
    refine HK8.out _ _ hb4 ?_
    have F4 := Lib.hid ((((Four.of_below (s := s) (g := g) (r := r) (q := q) bA).trans (Four.of_left ho)).trans (Four.of_below bb)).trans (Four.of_right ho2))
    refine take_first 9 (v := .bool true) rfl (by kernel_rfl) (by kernel_rfl) (by kernel_rfl) (fun _ _ _ h => h) rfl (fun W' hW' => by go_simp) hb4 ?_
    refine one_next 10 (by kernel_rfl) rfl rfl fun K10 hK10 => ?_
    have HK10 := Lib.hid hK10
    clear hK10
    go_simp
    refine HK10.out _ _ hb4 ?_
    refine one_next 11 (by kernel_rfl) rfl rfl fun K11 hK11 => ?_
    have HK11 := Lib.hid hK11
    clear hK11
    go_simp
    refine HK11.out _ _ hb4 ?_
    refine wpAnyH_done (by kernel_rfl) ?_ _
    have H4 := Lib.hid h4
    have K4 := Lib.hid k4
    clear h4 k4 h3 k3 h2 k2 ha ka ta hS0 hb1 hba hb2 hbb hb4 HK3 HK4 HK7 HK8 HK10 HK11 PA ho ho2 ba bb bA bB b1d hAa hAb
    go_simp
    go_wp2_with fail
    go_ret2
    exact ⟨s, g', c', q', c2', rfl, H4.out, K4.out, fun _ => rfl, F4.out, .inl rfl, hg'.imp id (by omega), hq'.imp id (by omega)⟩
  · have b0 := (Below.refl w.heap.size w).alloc (Nat.le_refl _) (.cells #[.int .i64 3, .int .i64 N, .int .i64 V, .bool true, .slice addr A.length cap] 40)
    have hb := Blk.new w 40 #[.int .i64 3, .int .i64 N, .int .i64 V, .bool true, .slice addr A.length cap]
    have KV := Lib.hid (variable_any 3 N V true (.slice addr A.length cap) rfl (w.alloc (.cells #[.int .i64 3, .int .i64 N, .int .i64 V, .bool true, .slice addr A.length cap] 40)))
    have KB := Lib.hid (fun W => between_any V (-1000000000000001) 1000000000000001 W (by omega) (by omega) (by omega))
    have eB : -1000000000000001 + V % (1000000000000001 - -1000000000000001 + 1) = betV V := rfl
    rw [eB] at KB
    have KB := KB
    clear eB
    go_enter Tryd.func24, Tryd.ntmps24
    go_wp2_with fail
    refine KV.out.mono ?_
    rintro e w1 ⟨rfl, b1'⟩
    have b1 : Below w.heap.size w w1 := b0.trans (b1'.mono (by simp))
    have hb1 := hb.below b1' (by simp)
    have c0 := hb1.cell' 0 rfl
    have c2' := hb1.cell' 2 rfl
    have c3 := hb1.cell' 3 rfl
    have H1 := Lib.hid (h.below b1)
    have K1 := Lib.hid (k.below b1)
    have hsz1 := b1.size
    clear KV b0 b1' hb
    go_wp2_with fail
    refine (KB.out _).mono ?_
    rintro e w' ⟨rfl, rfl⟩
    clear KB
    have AL := Lib.hid (argsOf_len ⟨3, N, V, true, addr, A, cap⟩ hn)
    have hx9 : x.n ≤ 9 := h.2.2.2.2.2
    have PA := Lib.hid (fun W' (hb : Below base w W') => actargs_any ⟨3, N, V, true, addr, A, cap⟩ W' (hA W' hb) hn)
    have hB : base ≤ w.heap.size := by omega
    clear hA
    go_wp2_with fail
    refine wp_region_held_drew (S := fun w' => Blk w' w.heap.size 40 #[.int .i64 3, .int .i64 N, .int .i64 V, .bool true, .slice addr A.length cap]) (by kernel_rfl) hb1.drew fun hS0 => ?_
    refine take_first 0 (v := .pointer (some ⟨s, 0, none⟩)) rfl (by kernel_rfl) (by kernel_rfl) (by kernel_rfl) (fun _ _ _ h => h) rfl (fun W' hW' => by go_simp) hS0 ?_
    refine take_first 1 (v := .pointer (some ⟨s, 0, none⟩)) rfl (by kernel_rfl) (by kernel_rfl) (by kernel_rfl) (fun _ _ _ h => h) rfl (fun W' hW' => by go_simp) hS0 ?_
    refine take_first 2 (v := .agg #[.int .i64 3, .int .i64 N, .int .i64 V, .bool true, .slice addr A.length cap]) rfl (by kernel_rfl) (by kernel_rfl) (by kernel_rfl) (fun _ _ _ h => h) rfl (fun W' hW' => by exact exec_row 40 (.tmp 5) rfl ⟨w.heap.size, 0, none⟩ _ (by go_simp) (run_loadAt_mid _ w.heap.size 0 40 [.int .i64 3, .int .i64 N, .int .i64 V, .bool true, .slice addr A.length cap] _ (act_range hW') Tryd.underlying40 rfl (by kernel_rfl))) hS0 ?_
    refine take_first 5 (v := .pointer (some ⟨r, 0, none⟩)) rfl (by kernel_rfl) (by kernel_rfl) (by kernel_rfl) (fun _ _ _ h => h) rfl (fun W' hW' => by go_simp) hS0 ?_
    refine take_first 6 (v := .agg #[.int .i64 3, .int .i64 N, .int .i64 V, .bool true, .slice addr A.length cap]) rfl (by kernel_rfl) (by kernel_rfl) (by kernel_rfl) (fun _ _ _ h => h) rfl (fun W' hW' => by exact exec_row 40 (.tmp 5) rfl ⟨w.heap.size, 0, none⟩ _ (by go_simp) (run_loadAt_mid _ w.heap.size 0 40 [.int .i64 3, .int .i64 N, .int .i64 V, .bool true, .slice addr A.length cap] _ (act_range hW') Tryd.underlying40 rfl (by kernel_rfl))) hS0 ?_
    refine one_next 3 (by kernel_rfl) rfl rfl fun K3 hK3 => ?_
    have HK3 := Lib.hid hK3
    clear hK3
    go_simp
    have b1d : Below w.heap.size w w1.drew := below_drewN b1 1
    refine (PA.out _ (b1d.mono hB)).mono ?_
    rintro e wa ⟨a', cp', rfl, hAa, ba0⟩
    have ba : Below w1.heap.size w1 wa := (below_drewN (Below.refl w1.heap.size w1) 1).trans ba0
    clear ba0
    have bA : Below w.heap.size w wa := b1.trans (ba.mono hsz1)
    have hsza := bA.size
    have hba := hb1.below ba hb1.lt
    have ha := SAt.below H1.out ba
    have ka := TAt.below K1.out ba
    have ta := tab_below ht bA hw0
    refine HK3.out _ _ hba ?_
    refine one_next 4 (by kernel_rfl) rfl rfl fun K4 hK4 => ?_
    have HK4 := Lib.hid hK4
    clear hK4
    go_simp
    refine (push_any a' (argsOf ⟨3, N, V, true, addr, A, cap⟩) cp' wa ha hAa AL.out ta hb0).mono ?_
    rintro e w2 hp
    obtain ⟨rfl, ho, g', c', hg', h2⟩ := push_u (d := ⟨3, N, V, true, addr, A, cap⟩) rfl hx9 hp
    have k2 := ka.other ha ho
    have hb2 : Blk w2 w.heap.size 40 #[.int .i64 3, .int .i64 N, .int .i64 V, .bool true, .slice addr A.length cap] := (ho.block _ hba.lt (by omega) (by omega)).trans hba
    have bB : Below base w w2 := (bA.mono hB).trans (ho.below (by omega) (by omega) (by omega))
    have hsz2 := ho.size
    clear hp
    refine HK4.out _ _ hb2 ?_
    refine one_next 7 (by kernel_rfl) rfl rfl fun K7 hK7 => ?_
    have HK7 := Lib.hid hK7
    clear hK7
    go_simp
    refine (PA.out _ bB).mono ?_
    rintro e wb ⟨a2, cp2, rfl, hAb, bb⟩
    have hbb := hb2.below bb hb2.lt
    have h3 := h2.below bb
    have k3 := k2.below bb
    have hszb := bb.size
    refine HK7.out _ _ hbb ?_
    refine one_next 8 (by kernel_rfl) rfl rfl fun K8 hK8 => ?_
    have HK8 := Lib.hid hK8
    clear hK8
    go_simp
    refine (rpush_any a2 (argsOf ⟨3, N, V, true, addr, A, cap⟩) cp2 wb k3 hAb AL.out).mono ?_
    rintro e w3 hp
    obtain ⟨rfl, ho2, q', c2', hq', k4⟩ := rpush_u (d := ⟨3, N, V, true, addr, A, cap⟩) rfl hx9 hp
    have h4 := h3.other k3 ho2
    have hb4 : Blk w3 w.heap.size 40 #[.int .i64 3, .int .i64 N, .int .i64 V, .bool true, .slice addr A.length cap] := (ho2.block _ hbb.lt (by omega) (by omega)).trans hbb
    clear hp
    refine HK8.out _ _ hb4 ?_
    have F4 := Lib.hid ((((Four.of_below (s := s) (g := g) (r := r) (q := q) bA).trans (Four.of_left ho)).trans (Four.of_below bb)).trans (Four.of_right ho2))
    refine take_first 9 (v := .bool true) rfl (by kernel_rfl) (by kernel_rfl) (by kernel_rfl) (fun _ _ _ h => h) rfl (fun W' hW' => by go_simp) hb4 ?_
    refine one_next 10 (by kernel_rfl) rfl rfl fun K10 hK10 => ?_
    have HK10 := Lib.hid hK10
    clear hK10
    go_simp
    refine HK10.out _ _ hb4 ?_
    refine one_next 11 (by kernel_rfl) rfl rfl fun K11 hK11 => ?_
    have HK11 := Lib.hid hK11
    clear hK11
    go_simp
    refine HK11.out _ _ hb4 ?_
    refine wpAnyH_done (by kernel_rfl) ?_ _
    have H4 := Lib.hid h4
    have K4 := Lib.hid k4
    clear h4 k4 h3 k3 h2 k2 ha ka ta hS0 hb1 hba hb2 hbb hb4 HK3 HK4 HK7 HK8 HK10 HK11 PA ho ho2 ba bb bA bB b1d hAa hAb
    go_simp
    go_wp2_with fail
    go_ret2
    exact ⟨s, g', c', q', c2', rfl, H4.out, K4.out, fun _ => rfl, F4.out, .inl rfl, hg'.imp id (by omega), hq'.imp id (by omega)⟩
end Go.Proofs.YtdbhkpkndfhcoaaDoor
