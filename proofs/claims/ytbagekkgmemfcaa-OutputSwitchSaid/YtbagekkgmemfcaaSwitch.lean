/-
  OutputSwitch returns true. Its arguments: any.
-/
import Derived.Test.YtbagekkgmemfcaaLaws38
namespace Go.Proofs.Ytbagekkgmemfcaa
open Go Go.RowKit
set_option linter.unusedVariables false

set_option maxRecDepth 100000 in
set_option maxHeartbeats 1000000 in
theorem switch_walk (a0 : Int) (c : List Value) (w : World) (hc : Leaves w itemKs c) :
    Calls Try.prog 3 #[.int .i64 a0, .agg c.toArray] w fun e w' => e = .returned (.bool true) ∧ Below w.heap.size w w' := by
  obtain ⟨k, n, on, hi⟩ := item_cells hc
  clear hc
  have hlen := hi.len
  have hone := hi.one
  obtain ⟨s, hs⟩ : ∃ s, a0 % 65536 = s := ⟨_, rfl⟩
  obtain ⟨m, hm⟩ : ∃ m, n % 16 = m := ⟨_, rfl⟩
  have sw := fun W => switch_any s k n on c hi W
  have rw' := fun W => rswitch_any s k n on c hi W
  have hi2 : ItemV ((c.set 0 (.int .i64 10)).set 19 (.int .i64 m)) 10 m on := ⟨by simp [hlen], by simp [hlen], by simp [hlen], by simpa using hi.on, by
    intro v hv
    rcases List.mem_or_eq_of_mem_set hv with hv | rfl
    · rcases List.mem_or_eq_of_mem_set hv with hv | rfl
      · exact hone v hv
      · simp [Value.oneCell']
    · simp [Value.oneCell']⟩
  obtain ⟨c2, hc2⟩ : ∃ c2, (c.set 0 (.int .i64 10)).set 19 (.int .i64 m) = c2 := ⟨_, rfl⟩
  rw [hc2] at hi2
  have sw2 := fun W => switch_any s 10 m on _ hi2 W
  have rw2 := fun W => rswitch_any s 10 m on _ hi2 W
  generalize swV s k n on = r1 at sw rw'
  generalize swV s 10 m on = r2 at sw2 rw2
  have h19 := hi.num
  have hl2 := hi2.len
  have C0 : ∃ u, c.toArray[0]? = some u := ⟨_, by simpa using hi.kind⟩
  have C19 : ∃ u, c.toArray[19]? = some u := ⟨_, by simpa using h19⟩
  have SW := Lib.hid sw
  have RW := Lib.hid rw'
  have SW2 := Lib.hid sw2
  have RW2 := Lib.hid rw2
  have HI := Lib.hid hi
  clear sw rw' sw2 rw2 hi hi2
  go_enter Try.func3, Try.ntmps3
  go_wp2_with fail
  refine (awake_true _).mono ?_
  rintro e wa ⟨rfl, bel⟩
  have b1 : Blk wa w.heap.size 25 c.toArray := (Blk.new w 25 _).below bel (by simp)
  have hlt : w.heap.size < wa.heap.size := by have := bel.size; simp at this; omega
  have bel := (Below.alloc (Below.refl w.heap.size w) (Nat.le_refl _) _).trans (bel.mono (by simp))
  have hfirst : ∀ z, Two w.heap.size w w.heap.size wa.heap.size c c ((wa.alloc (.cells z 25)).setRow wa.heap.size c.toArray) := fun z =>
    ⟨(b1.alloc _).rowFar (by omega) _, (Blk.new wa _ z).setRow _, below_row (bel.alloc (by omega) _) (by omega) _, by simp; omega⟩
  go_wp2_with (first
    | (go_at_call 8; refine (mod_any _ _ _ (by omega) (by omega)).mono ?_; rintro e w' ⟨rfl, rfl⟩; first | rw [hs] | rw [hm])
    | (refine wpList_load_row rfl 25 _ rfl w.heap.size rfl 25 c.toArray (0, 0) _ b1 Try.underlying25 rfl (by rw [List.size_toArray, hlen]; kernel_rfl) ?_)
    | (refine wpList_store_row rfl 25 _ _ rfl wa.heap.size c.toArray rfl rfl 25 #[.int .i64 0, .int .i64 0, .int .i64 0, .int .i64 0, .int .i64 0, .int .i64 0, .int .i64 0, .int .i64 0, .int .i64 0, .int .i64 0, .int .i64 0, .int .i64 0, .int .i64 0, .bool false, .int .i64 0, .bool false, .int .i64 0, .int .i64 0, .int .i64 0, .int .i64 0, .int .i64 0, .bool false] (Blk.new wa 25 _) (by rw [List.size_toArray, hlen]; kernel_rfl) (by simp [hlen]) (all_oneCell_toArray hone) ?_; refine on_told (Two w.heap.size w w.heap.size wa.heap.size c c) (hfirst _) ?_; intro W hW; have e19 := hW.one.cell' 19 (by simpa using h19); obtain ⟨u0, f0⟩ := C0; obtain ⟨u19, f19⟩ := C19; have d0 := hW.two.cell' 0 f0; have d19 := hW.two.cell' 19 f19; have z0 := hW.two.frozen 0; have z19 := hW.two.frozen 19))
  have hW2 := (hW.put (by omega) (by omega) 0 (.int .i64 10)).put (by omega) (by omega) 19 (.int .i64 m)
  rw [hc2] at hW2
  generalize hW' : (W.setCell ⟨wa.heap.size, 0, none⟩ (.int .i64 10)).setCell ⟨wa.heap.size, 19, none⟩ (.int .i64 m) = W' at hW2 ⊢
  clear hW' e19 d0 d19 z0 z19 hW
  have hs := hW2.drew
  let S := Two w.heap.size w w.heap.size wa.heap.size c c2
  have hl1 : ∀ p : At S, (Instr.loadAt 25 (.pointer (some ⟨w.heap.size, 0, none⟩))).run Try.prog p.w = .ok (.agg c.toArray) p.w := fun p => load_of p.ok.one Try.underlying25 rfl (by rw [hlen]; kernel_rfl)
  have hl2' : ∀ p : At S, (Instr.loadAt 25 (.pointer (some ⟨wa.heap.size, 0, none⟩))).run Try.prog p.w = .ok (.agg c2.toArray) p.w := fun p => load_of p.ok.two Try.underlying25 rfl (by rw [hl2]; kernel_rfl)
  have hA : ∀ (p : At S) o w', w' = p.w.alloc o → S w' := fun p o w' h => h ▸ p.ok.alloc o
  have hB : ∀ p : At S, Below w.heap.size w p.w := fun p => p.ok.bel
  have inst : Nonempty (At S) := ⟨⟨_, hs⟩⟩
  have hs : S W'.drew := hs
  clear_value S
  refine wp_region_at S (by kernel_rfl) (by kernel_rfl) hs ?_
  repeat first
    | (go_big_quiet_want; (first | refine quiet_load 25 (.tmp 3) rfl _ _ rfl hl1 ?_ | refine quiet_load 25 (.tmp 5) rfl _ _ rfl hl2' ?_); simp only [Act.put, List.setIfInBounds_toArray, List.set_cons_zero, List.set_cons_succ]; go_big_quiet_on)
    | go_big_quiet_step (first | with_reducible exact Calls.at_of (SW.out _) fun e w' h => ⟨h.1, hA _ _ _ h.2⟩ | with_reducible exact Calls.at_of (RW.out _) fun e w' h => ⟨h.1, hA _ _ _ h.2⟩ | with_reducible exact Calls.at_of (SW2.out _) fun e w' h => ⟨h.1, hA _ _ _ h.2⟩ | with_reducible exact Calls.at_of (RW2.out _) fun e w' h => ⟨h.1, hA _ _ _ h.2⟩)
  refine wpQuiet_nil ?_
  rintro _ ⟨p, rfl⟩
  go_wp2_with fail
  go_ret
  exact ⟨rfl, hB p⟩
end Go.Proofs.Ytbagekkgmemfcaa
