/-
  cncref33.Parse: the list of events of a text, or why it is none. Any text of at most 1,000,000 bytes.
-/
import Derived.Test.YtkafmpgihhnhdaaDoorWords33
import Derived.Test.YtkafmpgihhnhdaaDoorRNum33
import Derived.Test.YtkafmpgihhnhdaaDoorHeldL
namespace Go.Proofs.YtkafmpgihhnhdaaDoor
open Go Go.RowKit
set_option linter.unusedVariables false

attribute [local go_sem ↓] ix_run ix0_run
theorem cut_seg (s : ByteArray) (f k : Nat) (hk : k < s.size) (hf : f ≤ k) (hb : byt s k = 10) (hno : ∀ j, f ≤ j → j < k → byt s j ≠ (10 : UInt8).toNat) : cutL 10 ((bl s).drop f) = some (bl (s.extract f k), (bl s).drop (k + 1)) := by
  rw [bl_extract, seg_split s f k 10 hk hf hb, cutL_app _ (seg_no s f k 10 (by omega) hno), ← seg_split s f k 10 hk hf hb]
theorem cut_end (s : ByteArray) (f : Nat) (hf : f < s.size) (hno : ∀ j, f ≤ j → j < s.size → byt s j ≠ (10 : UInt8).toNat) : linesF ((bl s).drop f) = none := by
  refine linesF_none (cutL_none.2 ?_) (fun e => ?_)
  · have := seg_no s f s.size 10 (Nat.le_refl _) hno
    rwa [seg_end] at this
  · have := congrArg List.length e
    rw [List.length_drop, bl_len] at this
    simp at this
    omega
theorem str_eq (B : ByteArray) (i : Nat) : (B.toList == (nmE i).toList) = decide (bl B = nameL i) := by
  unfold nmE
  rw [toList_bl, toList_bl, bl_mkB]
  by_cases h : bl B = nameL i
  · rw [decide_eq_true h, h]; simp
  · rw [decide_eq_false h]; exact beq_eq_false_iff_ne.2 h
/-- What stands in the world while a line is read: its words, the event, the list so far. -/
structure PS (gw b8 : Nat) (A B C : ByteArray) (cs : Array Value) (v : Value) (E : List Ev) (w W : World) : Prop where
  row : Blk W gw 9 #[.string A, .string B, .string C] ∨ ∃ cur : Array Value, Blk W gw 9 cur ∧ cur[0]? = some (.string A) ∧ cur[1]? = some (.string B) ∧ cur[2]? = some (.string C)
  blk : Blk W b8 28 cs
  own : W.ownsRow w.heap.size 28 3 v E.length (evsC E)
  bel : Below w.heap.size w W
  low : w.heap.size ≤ b8
  ne : gw ≠ b8
  nov : some b8 ≠ v.ownBlock
section
variable {gw b8 : Nat} {A B C : ByteArray} {cs : Array Value} {v : Value} {E : List Ev} {w W W' : World}
theorem PS.row' (h : PS gw b8 A B C cs v E w W) : ∃ cur : Array Value, Blk W gw 9 cur ∧ cur[0]? = some (.string A) ∧ cur[1]? = some (.string B) ∧ cur[2]? = some (.string C) := by
  rcases h.row with h | h
  · exact ⟨_, h, rfl, rfl, rfl⟩
  · exact h
theorem PS.c0 (h : PS gw b8 A B C cs v E w W) : W.cell? ⟨gw, 0, none⟩ = some (.string A) := by obtain ⟨cur, hb, h0, _, _⟩ := h.row'; exact (hb.cell 0).trans h0
theorem PS.c1 (h : PS gw b8 A B C cs v E w W) : W.cell? ⟨gw, 1, none⟩ = some (.string B) := by obtain ⟨cur, hb, _, h0, _⟩ := h.row'; exact (hb.cell 1).trans h0
theorem PS.c2 (h : PS gw b8 A B C cs v E w W) : W.cell? ⟨gw, 2, none⟩ = some (.string C) := by obtain ⟨cur, hb, _, _, h0⟩ := h.row'; exact (hb.cell 2).trans h0
theorem PS.below (h : PS gw b8 A B C cs v E w W) (hb : Below W.heap.size W W') : PS gw b8 A B C cs v E w W' := by
  obtain ⟨cur, hr, h0, h1, h2⟩ := h.row'
  exact ⟨.inr ⟨cur, hr.below hb hr.lt, h0, h1, h2⟩, h.blk.below hb h.blk.lt, h.own.kept (grown_of_below hb) (Classical.em _), h.bel.trans (hb.mono h.bel.size), h.low, h.ne, h.nov⟩
theorem PS.set (h : PS gw b8 A B C cs v E w W) (i : Nat) (u : Value) : PS gw b8 A B C (cs.setIfInBounds i u) v E w (W.setCell ⟨b8, i, none⟩ u) := by
  obtain ⟨cur, hr, h0, h1, h2⟩ := h.row'
  have hg : W.grownBy (W.setCell ⟨b8, i, none⟩ u) (some b8) := grown_setCell (grown_refl _ _) (.inl rfl) u
  exact ⟨.inr ⟨cur, hr.far h.ne u, h0, h1, h2⟩, h.blk.put i u, h.own.kept hg (.inr fun e => h.nov e.symm), h.bel.setCell (by exact h.low) u, h.low, h.ne, h.nov⟩
end
theorem words3 {W : World} {base : Nat} {v : Value} {A B C : List UInt8} (h : W.ownsRow base 9 1 v 3 (wordsC [A, B, C])) : ∃ g c, v = .slice (some ⟨g, 0, none⟩) 3 c ∧ base ≤ g ∧ ∃ cur : Array Value, Blk W g 9 cur ∧ cur[0]? = some (.string (mkB A)) ∧ cur[1]? = some (.string (mkB B)) ∧ cur[2]? = some (.string (mkB C)) := by
  rcases h.2 with ⟨_, h2⟩ | ⟨g, cap, cur, rfl, hb, hh, _, _, _, ht⟩
  · cases h2
  · have hc : ∀ j, j < 3 → cur[j]? = (wordsC [A, B, C])[j]? := fun j hj => by rw [← ht, List.getElem?_take, if_pos (by omega)]; simp
    exact ⟨g, cap, rfl, hb, cur, hh, hc 0 (by omega), hc 1 (by omega), hc 2 (by omega)⟩
theorem kindN_step (B : List UInt8) (j : Nat) : kindN (j + 1) B = if B = nameL j then (j : Int) + 1 else kindN j B := rfl
set_option maxRecDepth 100000 in
set_option maxHeartbeats 4000000 in
theorem rparse_any (s : ByteArray) (hs : s.size ≤ 1000000) (w : World) : Calls Tryd.prog 18 #[.string s] w (ParsePost (parseR (bl s)) w) := by
  go_enter Tryd.func18, Tryd.ntmps18
  go_wp2_with fail
  go_loopw [4, 5, 6] (fun s4 s5 s6 wr => ∃ (f k : Nat) (E : List Ev) (v4 : Value), v4 = s4 ∧ f ≤ k ∧ k ≤ s.size ∧ s5 = .int .i64 f ∧ s6 = .int .i64 k ∧ E.length ≤ k ∧ (∀ j, f ≤ j → j < k → byt s j ≠ (10 : UInt8).toNat) ∧ linesF (bl s) = (linesF ((bl s).drop f)).map (E ++ ·) ∧ wr.ownsRow w.heap.size 28 3 v4 E.length (evsC E) ∧ Below w.heap.size w wr)
    (fun _ _ s6 _ => s.size - (intOf s6).toNat)
  case atStart => exact ⟨0, 0, [], _, rfl, by omega, by omega, rfl, rfl, by simp, fun j h1 h2 => by omega, by simp, World.ownsRow_nil _ _ _ _, Below.refl _ _⟩
  case round =>
    obtain ⟨f, k, E, v4, rfl, hf, hk, rfl, rfl, hel, hno, hlin, hown, bel⟩ := hrel
    have hsz := bel.size
    by_cases hlt : k < s.size
    · have e1 : decide (k < s.size) = true := decide_eq_true hlt
      have e1' : decide ((k : Int) < (s.size : Int)) = true := decide_eq_true (by omega)
      have HOWN := Lib.hid hown
      have BEL := Lib.hid bel
      have HNO := Lib.hid hno
      have HLIN := Lib.hid hlin
      have HEL := Lib.hid hel
      have j0 : (0 : Int) ≤ (f : Int) := by omega
      have j1 : (f : Int) ≤ (k : Int) := by omega
      have j2 : (k : Int) ≤ (s.size : Int) := by omega
      have j3 : (0 : Int) ≤ (k : Int) := by omega
      have j4 : (k : Int) < (s.size : Int) := by omega
      clear hown bel hno hlin hel
      by_cases hb : byt s k = 10
      · have t10 : (byt s k != 10) = false := by rw [hb]; rfl
        have KW := Lib.hid (words_any (s.extract f k) (by rw [ByteArray.size_extract]; omega) wr)
        have HCUT := linesF_cut (cut_seg s f k hlt hf hb HNO.out)
        have HLIN2 := HLIN.out
        rw [HCUT] at HLIN2
        have HLIN2 := Lib.hid HLIN2
        have hLs : (bl (s.extract f k)).length ≤ 1000000 := by rw [bl_len, ByteArray.size_extract]; omega
        obtain ⟨line, hline⟩ : ∃ x, bl (s.extract f k) = x := ⟨_, rfl⟩
        rw [hline] at KW HLIN2 hLs
        obtain ⟨ws, hws⟩ : ∃ x, splitL 32 line = x := ⟨_, rfl⟩
        rw [hws] at KW
        have hwsn : ws.length ≤ 1000001 := by have := splitL_len 32 line; rw [hws] at this; omega
        have HWS := Lib.hid hws
        clear hb HCUT hline hws HLIN
        go_wp2_with fail
        refine KW.out.mono ?_
        rintro e w1 ⟨v7, rfl, hown7, b1⟩
        have sz1 := b1.size
        have HOWN1 := Lib.hid (HOWN.out.kept (grown_of_below b1) (Classical.em _))
        have BEL1 := Lib.hid (BEL.out.trans (b1.mono hsz))
        by_cases h3 : ws.length = 3
        · obtain ⟨A', B', C', rfl⟩ : ∃ A B C, ws = [A, B, C] := by
            match ws, h3 with
            | [A, B, C], _ => exact ⟨A, B, C, rfl⟩
          obtain ⟨gw, c7, rfl, hgw, cur, hcur, q0, q1, q2⟩ := words3 hown7
          have hl := line_of HWS.out
          obtain ⟨s1, s2, s3⟩ := split3 HWS.out
          obtain ⟨A, rfl⟩ : ∃ A, A' = bl A := ⟨mkB A', by rw [bl_mkB]⟩
          obtain ⟨B, rfl⟩ : ∃ A, B' = bl A := ⟨mkB B', by rw [bl_mkB]⟩
          obtain ⟨C, rfl⟩ : ∃ A, C' = bl A := ⟨mkB C', by rw [bl_mkB]⟩
          rw [mkB_bl] at q0 q1 q2
          rw [bl_len] at s1 s2 s3
          have hP : PS gw w1.heap.size A B C #[.int .i64 0, .int .i64 0, .int .i64 0] v4 E w (w1.alloc (.cells #[.int .i64 0, .int .i64 0, .int .i64 0] 28)) :=
            ⟨.inr ⟨cur, hcur.alloc _, q0, q1, q2⟩, Blk.new _ _ _, HOWN1.out.alloc _, BEL1.out.alloc (by omega) _, by omega, by have := hcur.lt; omega, fun e => by have := (HOWN1.out.lt _ e.symm).2; omega⟩
          have HP := Lib.hid hP
          have HL := Lib.hid hl
          have szA : A.size ≤ 1000000 := by omega
          have szC : C.size ≤ 1000000 := by omega
          have d3 : (((3 : Nat) : Int) != 3) = false := rfl
          clear hP hcur q0 q1 q2 hown7 HWS b1 h3 hl s1 s2 s3 KW HOWN HOWN1 BEL1
          have ipow : ∀ j : Nat, j ≤ 13 → decide ((j : Int) + 1 ≤ 13) = decide (j < 13) := fun j hj => by
            by_cases h : j < 13
            · rw [decide_eq_true h]; exact decide_eq_true (by omega)
            · rw [decide_eq_false h]; exact decide_eq_false (by omega)
          go_wp2_with ((with_reducible refine go_built 28 _ #[.int .i64 0, .int .i64 0, .int .i64 0] (by with_unfolding_all kernel_rfl) ?_))
          obtain ⟨w8, hw8⟩ : ∃ w8, w1.alloc (.cells #[.int .i64 0, .int .i64 0, .int .i64 0] 28) = w8 := ⟨_, rfl⟩
          obtain ⟨b8, hb8⟩ : ∃ b8, w1.heap.size = b8 := ⟨_, rfl⟩
          rw [hw8, hb8] at HP
          simp only [hw8, hb8]
          go_loopw [9] (fun s9 w9 => ∃ j : Nat, j ≤ 13 ∧ s9 = .int .i64 ((j : Int) + 1) ∧ PS gw b8 A B C #[.int .i64 0, .int .i64 (kindN j (bl B)), .int .i64 0] v4 E w w9)
            (fun s9 _ => 14 - (intOf s9).toNat)
          case atStart => exact ⟨0, by omega, rfl, HP.out⟩
          case round =>
            obtain ⟨j, hj, rfl, hP⟩ := hrel
            have HP9 := Lib.hid hP
            have hb9 := hP.blk.lt
            clear hP HP
            by_cases hj13 : j < 13
            · have dj : decide ((j : Int) + 1 ≤ 13) = true := decide_eq_true (by omega)
              have KN := Lib.hid (fun W => rname_any j hj13 W)
              have hse := str_eq B j
              by_cases hbj : bl B = nameL j
              · rw [decide_eq_true hbj] at hse
                have hk : kindN (j + 1) (bl B) = (j : Int) + 1 := by rw [kindN_step, if_pos hbj]
                have HK0 := Lib.hid hk
                clear hbj hk ipow
                go_wp2_with fail
                have hS0 := HP9.out.below (below_drewN (Below.refl _ _) 1)
                refine region_L (PS gw b8 A B C #[.int .i64 0, .int .i64 (kindN j (bl B)), .int .i64 0] v4 E w) [] (by kernel_rfl) ?_
                refine take_P 0 (v := .slice (some ⟨gw, 0, none⟩) 3 c7) rfl (by kernel_rfl) (by kernel_rfl) (by kernel_rfl) (fun _ _ _ h => h) rfl (fun W' => by go_simp) ?_
                refine take_P 1 (v := .pointer (some ⟨gw, 1, none⟩)) rfl (by kernel_rfl) (by kernel_rfl) (by kernel_rfl) (fun _ _ _ h => h) rfl (fun W' => by go_simp) ?_
                refine take_L 2 (v := .string B) rfl (by kernel_rfl) (by kernel_rfl) (by kernel_rfl) (by kernel_rfl) (fun _ _ _ h => h) rfl (fun W' hW' => by have z : W'.cell? ⟨gw, 1, none⟩ = some (.string B) := hW'.c1; go_simp) hS0 ?_
                refine take_P 3 (v := .int .i64 ((j : Int) + 1)) rfl (by kernel_rfl) (by kernel_rfl) (by kernel_rfl) (fun _ _ _ h => h) rfl (fun W' => by go_simp) ?_
                refine one_L 4 (by kernel_rfl) rfl rfl fun K4 hK4 => ?_
                have HK4 := Lib.hid hK4
                clear hK4
                go_simp
                refine (KN.out _).mono ?_
                rintro e W3 ⟨rfl, b3⟩
                have K3 := Lib.hid (hS0.below b3)
                clear b3 hS0
                have hS0 := K3.out
                refine HK4.out _ _ (fun _ _ => hS0) ?_
                refine one_L 5 (by kernel_rfl) rfl rfl fun K5 hK5 => ?_
                have HK5 := Lib.hid hK5
                clear hK5
                go_simp
                have HS3 := Lib.hid hS0
                have fz : W3.frozen? ⟨b8, 1, none⟩ = false := hS0.blk.frozen 1
                have cz : W3.cell? ⟨b8, 1, none⟩ = some (.int .i64 (kindN j (bl B))) := hS0.blk.cell 1
                clear hS0
                refine HK5.out _ _ (fun _ _ => HS3.out) ?_
                refine done_L (by kernel_rfl) ?_ _
                clear HK4 HK5
                go_simp
                go_wp2_with fail
                go_roundw
                case rel => exact ⟨j + 1, by omega, by go_num, by rw [HK0.out]; exact HS3.out.set 1 _⟩
                case measure => simp [intOf]; omega
              · rw [decide_eq_false hbj] at hse
                have hk : kindN (j + 1) (bl B) = kindN j (bl B) := by rw [kindN_step, if_neg hbj]
                have HK0 := Lib.hid hk
                clear hbj hk ipow
                go_wp2_with fail
                have hS0 := HP9.out.below (below_drewN (Below.refl _ _) 1)
                refine region_L (PS gw b8 A B C #[.int .i64 0, .int .i64 (kindN j (bl B)), .int .i64 0] v4 E w) [] (by kernel_rfl) ?_
                refine take_P 0 (v := .slice (some ⟨gw, 0, none⟩) 3 c7) rfl (by kernel_rfl) (by kernel_rfl) (by kernel_rfl) (fun _ _ _ h => h) rfl (fun W' => by go_simp) ?_
                refine take_P 1 (v := .pointer (some ⟨gw, 1, none⟩)) rfl (by kernel_rfl) (by kernel_rfl) (by kernel_rfl) (fun _ _ _ h => h) rfl (fun W' => by go_simp) ?_
                refine take_L 2 (v := .string B) rfl (by kernel_rfl) (by kernel_rfl) (by kernel_rfl) (by kernel_rfl) (fun _ _ _ h => h) rfl (fun W' hW' => by have z : W'.cell? ⟨gw, 1, none⟩ = some (.string B) := hW'.c1; go_simp) hS0 ?_
                refine take_P 3 (v := .int .i64 ((j : Int) + 1)) rfl (by kernel_rfl) (by kernel_rfl) (by kernel_rfl) (fun _ _ _ h => h) rfl (fun W' => by go_simp) ?_
                refine one_L 4 (by kernel_rfl) rfl rfl fun K4 hK4 => ?_
                have HK4 := Lib.hid hK4
                clear hK4
                go_simp
                refine (KN.out _).mono ?_
                rintro e W3 ⟨rfl, b3⟩
                have K3 := Lib.hid (hS0.below b3)
                clear b3 hS0
                have hS0 := K3.out
                refine HK4.out _ _ (fun _ _ => hS0) ?_
                refine one_L 5 (by kernel_rfl) rfl rfl fun K5 hK5 => ?_
                have HK5 := Lib.hid hK5
                clear hK5
                go_simp
                have HS3 := Lib.hid hS0
                clear hS0
                refine HK5.out _ _ (fun _ _ => HS3.out) ?_
                refine done_L (by kernel_rfl) ?_ _
                clear HK4 HK5
                go_simp
                go_wp2_with fail
                go_roundw
                case rel => exact ⟨j + 1, by omega, by go_num, by rw [HK0.out]; exact HS3.out⟩
                case measure => simp [intOf]; omega
            · obtain rfl : j = 13 := by omega
              have dj : decide (((13 : Nat) : Int) + 1 ≤ 13) = false := by decide
              have dj' : decide ((13 : Int) + 1 ≤ 13) = false := by decide
              obtain ⟨kd, hkd⟩ : ∃ x, kindN 13 (bl B) = x := ⟨_, rfl⟩
              have hkb := kindN_bd 13 (bl B)
              rw [hkd] at HP9 HL hkb
              have KA := Lib.hid (rnumber_any A szA wr)
              have KC := Lib.hid (fun W => rnumber_any C szC W)
              have q0 := HP9.out.c0
              clear hkd ipow
              go_wp2_with fail
              refine KA.out.mono ?_
              rintro e w10 ⟨rfl, b10⟩
              have HP10 := Lib.hid (HP9.out.below b10)
              have q2 := HP10.out.c2
              clear b10 HP9 q0 KA
              unfold numV
              go_wp2_with fail
              refine (KC.out w10).mono ?_
              rintro e w11 ⟨rfl, b11⟩
              have HP11 := Lib.hid (HP10.out.below b11)
              clear b11 HP10 q2 KC
              unfold numV
              obtain ⟨xa, hxa⟩ : ∃ x, (numF (bl A)).getD 0 = x := ⟨_, rfl⟩
              obtain ⟨oa, hoa⟩ : ∃ x, (numF (bl A)).isSome = x := ⟨_, rfl⟩
              obtain ⟨xc, hxc⟩ : ∃ x, (numF (bl C)).getD 0 = x := ⟨_, rfl⟩
              obtain ⟨oc, hoc⟩ : ∃ x, (numF (bl C)).isSome = x := ⟨_, rfl⟩
              rw [hxa, hoa, hxc, hoc] at HL
              simp only [hxa, hoa, hxc, hoc]
              have m1 : w11.cell? ⟨b8, 1, none⟩ = some (.int .i64 kd) := HP11.out.blk.cell 1
              clear hxa hoa hxc hoc
              by_cases hgood : (oa && oc && decide (0 < kd)) = true
              · rw [if_pos hgood] at HL
                have hgg := hgood
                simp only [Bool.and_eq_true, decide_eq_true_eq] at hgg
                obtain ⟨⟨rfl, rfl⟩, hkd0⟩ := hgg
                have dk : (kd == 0) = false := beq_eq_false_iff_ne.2 (by omega)
                have R : linesF (bl s) = (linesF ((bl s).drop (k + 1))).map ((E ++ [⟨xa, kd, xc⟩]) ++ ·) := by
                  rw [HLIN2.out, HL.out]
                  simp only [Option.bind_some, Option.map_map]
                  congr 1
                  funext x
                  simp
                have R := Lib.hid R
                have m0 : w11.frozen? ⟨b8, 0, none⟩ = false := HP11.out.blk.frozen 0
                have m0c : w11.cell? ⟨b8, 0, none⟩ = some (.int .i64 0) := HP11.out.blk.cell 0
                have HP12 := Lib.hid (HP11.out.set 0 (.int .i64 xa))
                have m2 : (w11.setCell ⟨b8, 0, none⟩ (.int .i64 xa)).frozen? ⟨b8, 2, none⟩ = false := HP12.out.blk.frozen 2
                have m2c : (w11.setCell ⟨b8, 0, none⟩ (.int .i64 xa)).cell? ⟨b8, 2, none⟩ = some (.int .i64 0) := HP12.out.blk.cell 2
                have HP13 := Lib.hid (HP12.out.set 2 (.int .i64 xc))
                have n0 : ((w11.setCell ⟨b8, 0, none⟩ (.int .i64 xa)).setCell ⟨b8, 2, none⟩ (.int .i64 xc)).cell? ⟨b8, 0, none⟩ = some (.int .i64 xa) := HP13.out.blk.cell 0
                have n1 : ((w11.setCell ⟨b8, 0, none⟩ (.int .i64 xa)).setCell ⟨b8, 2, none⟩ (.int .i64 xc)).cell? ⟨b8, 1, none⟩ = some (.int .i64 kd) := HP13.out.blk.cell 1
                have n2 : ((w11.setCell ⟨b8, 0, none⟩ (.int .i64 xa)).setCell ⟨b8, 2, none⟩ (.int .i64 xc)).cell? ⟨b8, 2, none⟩ = some (.int .i64 xc) := HP13.out.blk.cell 2
                have szs : ((w11.setCell ⟨b8, 0, none⟩ (.int .i64 xa)).setCell ⟨b8, 2, none⟩ (.int .i64 xc)).heap.size = w11.heap.size := by simp [World.setCell]
                have sz13 := HP13.out.bel.size
                clear hgood HP11 HP12 HL HLIN2
                go_wp2_with (first
                  | ((with_reducible refine go_ev1 (.tmp 77) xa kd xc (by with_unfolding_all rfl) ?_))
                  | ((with_reducible refine go_evapp (.tmp 76) (.tmp 78) E ⟨xa, kd, xc⟩ _ (by with_unfolding_all rfl) (HP13.out.own.alloc _) (by with_unfolding_all rfl) (by with_unfolding_all exact Blk.new ((w11.setCell ⟨b8, 0, none⟩ (.int .i64 xa)).setCell ⟨b8, 2, none⟩ (.int .i64 xc)) _ _) (by have := HEL.out; omega) (by simp; omega) ?_); intro v' w14 hown14 hgrow; have bel14 : Below w.heap.size w w14 := (HP13.out.bel.alloc (by omega) _).trans (below_of_grown hgrow (by simp; omega) (fun k e => ((HP13.out.own).lt k e).1)); have FF := Lib.hid (And.intro hown14 bel14); clear hown14 bel14 hgrow))
                go_roundw
                case rel => exact ⟨k + 1, k + 1, E ++ [⟨xa, kd, xc⟩], _, rfl, by omega, by omega, by go_num, by go_num, by rw [List.length_append]; simp; exact HEL.out, fun j h1 h2 => by omega, R.out, FF.out.1, FF.out.2⟩
                case measure => simp [intOf]; omega
              · rw [if_neg hgood] at HL
                have R := Lib.hid (parse_bad (by rw [HLIN2.out, HL.out]; rfl))
                have BEL := Lib.hid HP11.out.bel
                have hbad : (kd == 0) = true ∨ ((kd == 0) = false ∧ oa = false) ∨ ((kd == 0) = false ∧ oa = true ∧ oc = false) := by
                  by_cases hk0 : kd = 0
                  · exact .inl (beq_iff_eq.2 hk0)
                  · have h1 : (kd == 0) = false := beq_eq_false_iff_ne.2 hk0
                    have h2 : decide (0 < kd) = true := decide_eq_true (by omega)
                    rw [h2] at hgood
                    cases oa
                    · exact .inr (.inl ⟨h1, rfl⟩)
                    · cases oc
                      · exact .inr (.inr ⟨h1, rfl, rfl⟩)
                      · exact absurd rfl hgood
                clear hgood HL HLIN2 HP11
                rcases hbad with dk | ⟨dk, rfl⟩ | ⟨dk, rfl, rfl⟩
                all_goals
                  go_wp2_with fail
                  go_ret2
                  exact ParsePost.nil 2 R.out BEL.out rfl
        · have R := Lib.hid (parse_bad (by rw [HLIN2.out, line_no (by rw [HWS.out]; exact h3)]; rfl))
          have d3 : (((ws.length : Nat) : Int) != 3) = true := bne_iff_ne.2 (by omega)
          obtain ⟨a5, c5, rfl⟩ : ∃ a c, v7 = .slice a ws.length c := by
            rcases hown7.2 with ⟨h1, h2⟩ | ⟨g', cap', cur, h1, _⟩
            · exact ⟨_, _, by rw [h1, h2]⟩
            · exact ⟨_, _, h1⟩
          clear hown7 b1 KW HWS
          go_wp2_with fail
          go_ret2
          exact ParsePost.nil 2 R.out BEL1.out rfl
      · have t10 : (byt s k != 10) = true := bne_iff_ne.2 hb
        have HB := Lib.hid hb
        clear hb
        go_wp2_with fail
        go_roundw
        case rel => exact ⟨f, k + 1, E, _, rfl, by omega, by omega, rfl, by go_num, by have := HEL.out; omega, fun j h1 h2 => by
          by_cases e : j = k
          · subst e; exact HB.out
          · exact HNO.out j h1 (by omega), HLIN.out, HOWN.out, BEL.out⟩
        case measure => simp [intOf]; omega
    · obtain rfl : k = s.size := by omega
      have e1 : decide (s.size < s.size) = false := by simp
      have e1' : decide ((s.size : Int) < (s.size : Int)) = false := by simp
      by_cases hfe : f = s.size
      · have R : linesF (bl s) = some E := by
          rw [hlin, hfe, List.drop_eq_nil_of_le (by rw [bl_len]; omega), linesF_nil]
          simp
        have R := parse_done R
        have df : ((f : Int) != (s.size : Int)) = false := bne_eq_false_iff_eq.2 (by omega)
        clear hfe
        by_cases h20 : 2000 < E.length
        · rw [if_pos h20] at R
          have d2 : decide (2000 < E.length) = true := by simpa using h20
          have d2' : decide (2000 < (E.length : Int)) = true := decide_eq_true (by omega)
          have R := Lib.hid R
          obtain ⟨a5, c5, rfl, _, _⟩ := evs_own hown
          have BEL := Lib.hid bel
          obtain ⟨nE, hnE⟩ : ∃ x, E.length = x := ⟨_, rfl⟩
          rw [hnE] at d2 d2' ⊢
          clear hown hlin hnE h20 bel hno hel
          go_wp2_with fail
          go_ret2
          exact ParsePost.nil 10 R.out BEL.out rfl
        · rw [if_neg h20] at R
          have d2 : decide (2000 < E.length) = false := by simpa using h20
          have d2' : decide (2000 < (E.length : Int)) = false := decide_eq_false (by omega)
          obtain ⟨a5, c5, rfl, hat, _⟩ := evs_own hown
          have HOWN := Lib.hid hown
          have BEL := Lib.hid bel
          have KV := rvalid_any a5 c5 E wr hat (by omega)
          cases hv : validE E
          · rw [hv, if_neg (by decide)] at R
            rw [hv] at KV
            have KV := Lib.hid KV
            have R := Lib.hid R
            clear hown hlin h20 bel hat hv hno hel
            go_wp2_with fail
            refine KV.out.mono ?_
            rintro e w5 ⟨rfl, b5⟩
            go_wp2_with fail
            go_ret2
            exact ParsePost.nil 3 R.out (BEL.out.trans (b5.mono hsz)) rfl
          · rw [hv, if_pos rfl] at R
            rw [hv] at KV
            have KV := Lib.hid KV
            have R := Lib.hid R
            clear hown hlin h20 bel hat hv hno hel
            go_wp2_with fail
            refine KV.out.mono ?_
            rintro e w5 ⟨rfl, b5⟩
            go_wp2_with fail
            go_ret2
            exact ⟨.slice a5 E.length c5, by rw [R.out]; rfl, by rw [R.out]; exact HOWN.out.kept (grown_of_below b5) (Classical.em _), BEL.out.trans (b5.mono hsz)⟩
      · have R := Lib.hid (parse_bad (by rw [hlin, cut_end s f (by omega) hno]; rfl))
        have df : ((f : Int) != (s.size : Int)) = true := bne_iff_ne.2 (by omega)
        have BEL := Lib.hid bel
        clear hfe hown hlin bel hno hel
        go_wp2_with fail
        go_ret2
        exact ParsePost.nil 2 R.out BEL.out rfl
end Go.Proofs.YtkafmpgihhnhdaaDoor
