/-
  cncref16.Parse: the table of a text, or why there is none. Any text of at most 1,000,000 bytes.
-/
import Derived.Test.YtlpmbjgimllmgaaDoorRead16
import Derived.Test.YtlpmbjgimllmgaaDoorParse16
namespace Go.Proofs.YtlpmbjgimllmgaaDoor
open Go Go.RowKit
set_option linter.unusedVariables false

theorem parseLs_nil (full : Bool) (acc : List To) : parseLs full acc [] = if validT acc = true then (acc, (acc.length : Int), 0) else ([], 0, 1) := rfl
theorem parseLs_bad {full : Bool} {acc : List To} {a : List UInt8} {rest : List (List UInt8)} (h : toolF a = none) : parseLs full acc (a :: rest) = ([], (acc.length : Int), 2) := by
  rw [parseLs]
  split
  · rfl
  · rw [h]
theorem parseLs_last {acc : List To} {a : List UInt8} : parseLs false acc [a] = ([], (acc.length : Int), 2) := by rw [parseLs, if_pos ⟨rfl, rfl⟩]
theorem parseLs_tool {full : Bool} {acc : List To} {a : List UInt8} {rest : List (List UInt8)} {t : To} (h : toolF a = some t) (hl : ¬ (rest = [] ∧ full = false)) : parseLs full acc (a :: rest) = parseLs full (acc ++ [t]) rest := by rw [parseLs, if_neg hl, h]
/-- What stands while a line is read: its words, the numbers so far, the table so far. -/
structure RS (w1 : World) (gw b10 : Nat) (A B C D : ByteArray) (v0 v1 v2 v3 : Int) (v : Value) (acc : List To) (W : World) : Prop where
  row : ∃ cur : Array Value, Blk W gw 9 cur ∧ cur[0]? = some (.string A) ∧ cur[1]? = some (.string B) ∧ cur[2]? = some (.string C) ∧ cur[3]? = some (.string D)
  arr : Blk W b10 53 #[.int .i64 v0, .int .i64 v1, .int .i64 v2, .int .i64 v3]
  own : W.ownsRow w1.heap.size 29 4 v acc.length (tosC acc)
  bel : Below w1.heap.size w1 W
  low : w1.heap.size ≤ b10
  ne : gw ≠ b10
  nov : some b10 ≠ v.ownBlock
section
variable {w1 W W' : World} {gw b10 : Nat} {A B C D : ByteArray} {v0 v1 v2 v3 : Int} {v : Value} {acc : List To}
theorem RS.c0 (h : RS w1 gw b10 A B C D v0 v1 v2 v3 v acc W) : W.cell? ⟨gw, 0, none⟩ = some (.string A) := by obtain ⟨cur, hb, h0, _⟩ := h.row; exact (hb.cell 0).trans h0
theorem RS.c1 (h : RS w1 gw b10 A B C D v0 v1 v2 v3 v acc W) : W.cell? ⟨gw, 1, none⟩ = some (.string B) := by obtain ⟨cur, hb, _, h0, _⟩ := h.row; exact (hb.cell 1).trans h0
theorem RS.c2 (h : RS w1 gw b10 A B C D v0 v1 v2 v3 v acc W) : W.cell? ⟨gw, 2, none⟩ = some (.string C) := by obtain ⟨cur, hb, _, _, h0, _⟩ := h.row; exact (hb.cell 2).trans h0
theorem RS.c3 (h : RS w1 gw b10 A B C D v0 v1 v2 v3 v acc W) : W.cell? ⟨gw, 3, none⟩ = some (.string D) := by obtain ⟨cur, hb, _, _, _, h0⟩ := h.row; exact (hb.cell 3).trans h0
theorem RS.set (h : RS w1 gw b10 A B C D v0 v1 v2 v3 v acc W) (i : Nat) (u : Value) {y0 y1 y2 y3 : Int} (hy : (#[Value.int .i64 v0, .int .i64 v1, .int .i64 v2, .int .i64 v3].setIfInBounds i u) = #[Value.int .i64 y0, .int .i64 y1, .int .i64 y2, .int .i64 y3]) : RS w1 gw b10 A B C D y0 y1 y2 y3 v acc (W.setCell ⟨b10, i, none⟩ u) := by
  obtain ⟨cur, hr, h0⟩ := h.row
  have hg : W.grownBy (W.setCell ⟨b10, i, none⟩ u) (some b10) := grown_setCell (grown_refl _ _) (.inl rfl) u
  exact ⟨⟨cur, hr.far h.ne u, h0⟩, hy ▸ h.arr.put i u, h.own.kept hg (.inr fun e => h.nov e.symm), h.bel.setCell (by exact h.low) u, h.low, h.ne, h.nov⟩
end
theorem words4 {W : World} {base : Nat} {v : Value} {A B C D : List UInt8} (h : W.ownsRow base 9 1 v 4 (wordsC [A, B, C, D])) : ∃ g c, v = .slice (some ⟨g, 0, none⟩) 4 c ∧ base ≤ g ∧ ∃ cur : Array Value, Blk W g 9 cur ∧ cur[0]? = some (.string (mkB A)) ∧ cur[1]? = some (.string (mkB B)) ∧ cur[2]? = some (.string (mkB C)) ∧ cur[3]? = some (.string (mkB D)) := by
  rcases h.2 with ⟨_, h2⟩ | ⟨g, cap, cur, rfl, hb, hh, _, _, _, ht⟩
  · cases h2
  · have hc : ∀ j, j < 4 → cur[j]? = (wordsC [A, B, C, D])[j]? := fun j hj => by rw [← ht, List.getElem?_take, if_pos (by omega)]; simp
    exact ⟨g, cap, rfl, hb, cur, hh, hc 0 (by omega), hc 1 (by omega), hc 2 (by omega), hc 3 (by omega)⟩
theorem words_cell {W : World} {base : Nat} {v : Value} {ls : List (List UInt8)} (h : W.ownsRow base 9 1 v ls.length (wordsC ls)) : ∃ a c, v = .slice a ls.length c ∧ ∀ k x, ls[k]? = some x → ∃ b, a = some ⟨b, 0, none⟩ ∧ b < W.heap.size ∧ W.cell? ⟨b, k, none⟩ = some (.string (mkB x)) := by
  rcases h.2 with ⟨rfl, e⟩ | ⟨g, cap, cur, rfl, hb, _⟩
  · refine ⟨none, 0, by rw [e], fun k x hk => ?_⟩
    have := (List.getElem?_eq_some_iff.1 hk).1
    omega
  · refine ⟨_, _, rfl, fun k x hk => ⟨g, rfl, (h.lt g rfl).2, ?_⟩⟩
    have hlt := (List.getElem?_eq_some_iff.1 hk).1
    rw [h.cellAt k (by omega)]
    unfold wordsC
    rw [List.getElem?_map, hk]
    rfl
set_option maxRecDepth 100000 in
set_option maxHeartbeats 4000000 in
theorem rparse_any (s : ByteArray) (hs : s.size ≤ 1000000) (w : World) : Calls Tryd.prog 19 #[.string s] w (ParsePost (parseT (bl s)) w) := by
  have KL := Lib.hid (lines_any s hs w)
  obtain ⟨hll1, hll2, hll3⟩ := lnsF_len _ (bl s) (Nat.le_refl _)
  have hp0 := parse_lines _ [] (bl s) (Nat.le_refl _)
  rw [bl_len] at hll1
  go_enter Tryd.func19, Tryd.ntmps19
  go_wp2_with fail
  refine KL.out.mono ?_
  rintro e w1 ⟨vl, rfl, hownl, b1⟩
  obtain ⟨⟨ls, full⟩, hlf⟩ : ∃ x, lnsF (bl s) = x := ⟨_, rfl⟩
  rw [hlf] at hownl hp0 hll1 hll3
  simp only at hownl hp0 hll1 hll3
  simp only [hlf]
  obtain ⟨al, cl, rfl, hcl⟩ := words_cell hownl
  obtain ⟨N, hN⟩ : ∃ N, ls.length = N := ⟨_, rfl⟩
  have HN := Lib.hid hN
  have hN6 : N ≤ 1000000 := by omega
  have HCL := Lib.hid hcl
  have BEL1 := Lib.hid b1
  have sz1 := b1.size
  have HP0 := Lib.hid (show parseT (bl s) = parseLs full [] ls from hp0)
  have HL3 := Lib.hid (fun a ha => (bl_len s ▸ hll3 a ha : a.length ≤ s.size))
  have HG := Lib.hid (fun k (hk : k < N) => (⟨ls[k]'(by omega), List.getElem?_eq_getElem _⟩ : ∃ x, ls[k]? = some x))
  rw [hN]
  clear hownl hcl b1 KL hp0 hll1 hll2 hll3 hlf hN
  go_wp2_with fail
  go_loopw [7, 8] (fun s7 s8 wr => ∃ (k : Nat) (acc : List To) (v7 : Value), v7 = s7 ∧ k ≤ N ∧ s8 = .int .i64 k ∧ acc.length = k ∧ parseT (bl s) = parseLs full acc (ls.drop k) ∧ wr.ownsRow w1.heap.size 29 4 v7 acc.length (tosC acc) ∧ Below w1.heap.size w1 wr)
    (fun _ s8 _ => N - (intOf s8).toNat)
  case atStart => exact ⟨0, [], _, rfl, by omega, rfl, rfl, HP0.out, World.ownsRow_nil _ _ _ _, Below.refl _ _⟩
  case round =>
    obtain ⟨k, acc, v7, rfl, hk, rfl, hak, hp, hown, bel⟩ := hrel
    have hszr := bel.size
    by_cases hlt : k < N
    · obtain ⟨a, ha⟩ := HG.out k hlt
      have e1 : decide (k < N) = true := decide_eq_true hlt
      have e1' : decide ((k : Int) < (N : Int)) = true := decide_eq_true (by omega)
      have k0 : (0 : Int) ≤ (k : Int) := by omega
      have k1 : (k : Int) < (N : Int) := by omega
      obtain ⟨bL, rfl, hbL, hcell⟩ := HCL.out k a ha
      have q1 : wr.cell? ⟨bL, k, none⟩ = some (.string (mkB a)) := (bel.cell (p := ⟨bL, k, none⟩) hbL).trans hcell
      have hal := HL3.out a (List.mem_of_getElem? ha)
      have hdrop : ls.drop k = a :: ls.drop (k + 1) := by
        obtain ⟨h1, h2⟩ := List.getElem?_eq_some_iff.1 ha
        rw [List.drop_eq_getElem_cons h1, h2]
      rw [hdrop] at hp
      have KF := fields_split (mkB a) (by rw [mkB_size]; omega) wr
      rw [bl_mkB] at KF
      obtain ⟨ws, hws⟩ : ∃ x, splitL 32 a = x := ⟨_, rfl⟩
      rw [hws] at KF
      have hwsn : ws.length ≤ 1000001 := by have := splitL_len 32 a; rw [hws] at this; omega
      have KF := Lib.hid KF
      have HP := Lib.hid hp
      have HOWN := Lib.hid hown
      have BELr := Lib.hid bel
      have HWS := Lib.hid hws
      have HAK := Lib.hid hak
      clear hp hown bel hws hcell hdrop ha hak
      go_wp2_with fail
      refine KF.out.mono ?_
      rintro e w3 ⟨v9, rfl, hown9, b3⟩
      have HOWN3 := Lib.hid (HOWN.out.kept (grown_of_below b3) (Classical.em _))
      have BEL3 := Lib.hid (BELr.out.trans (b3.mono hszr))
      have sz3 := BEL3.out.size
      have hb3 := b3.size
      by_cases h4 : ws.length = 4
      · obtain ⟨A', B', C', D', rfl⟩ : ∃ A B C D, ws = [A, B, C, D] := by
          match ws, h4 with
          | [A, B, C, D], _ => exact ⟨A, B, C, D, rfl⟩
        obtain ⟨gw, c9, rfl, hgw, cur, hcur, q2, q3, q4, q5⟩ := words4 hown9
        have htf := tool_of HWS.out
        have hsp := split4 HWS.out
        obtain ⟨A, rfl⟩ : ∃ A, A' = bl A := ⟨mkB A', by rw [bl_mkB]⟩
        obtain ⟨B, rfl⟩ : ∃ A, B' = bl A := ⟨mkB B', by rw [bl_mkB]⟩
        obtain ⟨C, rfl⟩ : ∃ A, C' = bl A := ⟨mkB C', by rw [bl_mkB]⟩
        obtain ⟨D, rfl⟩ : ∃ A, D' = bl A := ⟨mkB D', by rw [bl_mkB]⟩
        have hl := congrArg List.length hsp
        simp only [List.length_append, List.length_cons, bl_len] at hl
        have sA : A.size ≤ 1000000 := by omega
        have sB : B.size ≤ 1000000 := by omega
        have sC : C.size ≤ 1000000 := by omega
        have sD : D.size ≤ 1000000 := by omega
        rw [mkB_bl] at q2 q3 q4 q5
        have d4 : (((4 : Nat) : Int) != 4) = false := rfl
        by_cases hlast : k + 1 = N ∧ full = false
        · obtain ⟨hk1, rfl⟩ := hlast
          have R := Lib.hid (show parseT (bl s) = ([], (acc.length : Int), 2) from HP.out.trans (by rw [List.drop_eq_nil_of_le (by have := HN.out; omega)]; exact parseLs_last))
          rw [HAK.out] at R
          have z1 : ((k : Int) == (N : Int) - 1) = true := beq_iff_eq.2 (by omega)
          have BEL := Lib.hid (BEL1.out.trans (BEL3.out.mono sz1))
          clear hcur q2 q3 q4 q5 hown9 htf hsp hl b3 KF HOWN HOWN3 BEL3 HP HWS
          go_wp2_with fail
          go_ret3
          exact ParsePost.nil _ 2 R.out BEL.out rfl
        · have hnl : ¬ (ls.drop (k + 1) = [] ∧ full = false) := by
            rintro ⟨h1, h2⟩
            refine hlast ⟨?_, h2⟩
            have := congrArg List.length h1
            rw [List.length_drop, HN.out] at this
            simp at this
            omega
          have HNL := Lib.hid hnl
          have hS : RS w1 gw w3.heap.size A B C D 0 0 0 0 v7 acc (w3.alloc (.cells #[.int .i64 0, .int .i64 0, .int .i64 0, .int .i64 0] 53)) :=
            ⟨⟨cur, hcur.alloc _, q2, q3, q4, q5⟩, Blk.new _ _ _, HOWN3.out.alloc _, BEL3.out.alloc (by omega) _, by omega, by have := hcur.lt; omega, fun e => by have := (HOWN3.out.lt _ e.symm).2; omega⟩
          have HS0 := Lib.hid hS
          have HTF := Lib.hid htf
          have hz : ((k : Int) == (N : Int) - 1) = false ∨ (((k : Int) == (N : Int) - 1) = true ∧ full = true) := by
            by_cases hk1 : k + 1 = N
            · right
              refine ⟨beq_iff_eq.2 (by omega), ?_⟩
              cases full
              · exact absurd ⟨hk1, rfl⟩ hlast
              · rfl
            · left
              exact beq_eq_false_iff_ne.2 (by omega)
          clear hS htf hcur q2 q3 q4 q5 hown9 hsp hl b3 KF HOWN HOWN3 HWS hnl hlast BELr
          rcases hz with z1 | ⟨z1, rfl⟩
          · skip
            go_wp2_with fail
            obtain ⟨w8, hw8⟩ : ∃ w8, w3.alloc (.cells #[.int .i64 0, .int .i64 0, .int .i64 0, .int .i64 0] 53) = w8 := ⟨_, rfl⟩
            obtain ⟨b10, hb10⟩ : ∃ b10, w3.heap.size = b10 := ⟨_, rfl⟩
            rw [hw8, hb10] at HS0
            try simp only [hw8, hb10]
            go_loopw [11] (fun s11 w9 => ∃ (j : Nat) (vs : Int × Int × Int × Int), j ≤ 4 ∧ s11 = .int .i64 j ∧ ((0 < j → readF (bl A) = some vs.1) ∧ (1 < j → readF (bl B) = some vs.2.1) ∧ (2 < j → readF (bl C) = some vs.2.2.1) ∧ (3 < j → readF (bl D) = some vs.2.2.2)) ∧ RS w1 gw b10 A B C D vs.1 vs.2.1 vs.2.2.1 vs.2.2.2 v7 acc w9)
              (fun s11 _ => 4 - (intOf s11).toNat)
            case atStart => exact ⟨0, (0, 0, 0, 0), by omega, rfl, ⟨fun h => by omega, fun h => by omega, fun h => by omega, fun h => by omega⟩, HS0.out⟩
            case round =>
              obtain ⟨j, ⟨v0, v1, v2, v3⟩, hj, rfl, ⟨g0, g1, g2, g3⟩, hS⟩ := hrel
              simp only at g0 g1 g2 g3 hS
              have hj5 : j = 0 ∨ j = 1 ∨ j = 2 ∨ j = 3 ∨ j = 4 := by omega
              clear hj
              rcases hj5 with rfl | rfl | rfl | rfl | rfl
              · skip
                have q0 := hS.c0
                have fz : wr.frozen? ⟨b10, 0, none⟩ = false := hS.arr.frozen 0
                have cz : wr.cell? ⟨b10, 0, none⟩ = some (.int .i64 v0) := hS.arr.cell 0
                have KR := read_any A sA wr
                have HS := Lib.hid hS
                clear hS HS0
                cases hr : readF (bl A) with
                | none =>
                  have R := Lib.hid (HP.out.trans (parseLs_bad (by rw [HTF.out, hr]; rfl)))
                  rw [HAK.out] at R
                  have BEL := Lib.hid (BEL1.out.trans (HS.out.bel.mono sz1))
                  rw [hr] at KR
                  have KR := Lib.hid KR
                  clear hr
                  unfold readV at KR
                  go_wp2_with fail
                  refine KR.out.mono ?_
                  rintro e w' ⟨rfl, rfl⟩
                  go_wp2_with fail
                  go_ret3
                  exact ParsePost.nil _ 2 R.out BEL.out rfl
                | some x =>
                  rw [hr] at KR
                  have KR := Lib.hid KR
                  have HR := Lib.hid hr
                  clear hr
                  unfold readV at KR
                  have HS5 := Lib.hid (HS.out.set 0 (.int .i64 x) (y0 := (x, v1, v2, v3).1) (y1 := (x, v1, v2, v3).2.1) (y2 := (x, v1, v2, v3).2.2.1) (y3 := (x, v1, v2, v3).2.2.2) rfl)
                  go_wp2_with fail
                  refine KR.out.mono ?_
                  rintro e w' ⟨rfl, rfl⟩
                  go_wp2_with fail
                  go_roundw
                  case rel => exact ⟨0 + 1, (x, v1, v2, v3), by omega, by rfl, ⟨fun _ => (by first | exact HR.out | rfl), fun h => (by omega), fun h => (by omega), fun h => (by omega)⟩, HS5.out⟩
                  case measure => simp [intOf]
              · skip
                have q0 := hS.c1
                have fz : wr.frozen? ⟨b10, 1, none⟩ = false := hS.arr.frozen 1
                have cz : wr.cell? ⟨b10, 1, none⟩ = some (.int .i64 v1) := hS.arr.cell 1
                have KR := read_any B sB wr
                have HS := Lib.hid hS
                clear hS HS0
                cases hr : readF (bl B) with
                | none =>
                  have R := Lib.hid (HP.out.trans (parseLs_bad (by rw [HTF.out, g0 (by omega), Option.bind_some, hr]; rfl)))
                  rw [HAK.out] at R
                  have BEL := Lib.hid (BEL1.out.trans (HS.out.bel.mono sz1))
                  rw [hr] at KR
                  have KR := Lib.hid KR
                  clear hr
                  unfold readV at KR
                  go_wp2_with fail
                  refine KR.out.mono ?_
                  rintro e w' ⟨rfl, rfl⟩
                  go_wp2_with fail
                  go_ret3
                  exact ParsePost.nil _ 2 R.out BEL.out rfl
                | some x =>
                  rw [hr] at KR
                  have KR := Lib.hid KR
                  have HR := Lib.hid hr
                  clear hr
                  unfold readV at KR
                  have HS5 := Lib.hid (HS.out.set 1 (.int .i64 x) (y0 := (v0, x, v2, v3).1) (y1 := (v0, x, v2, v3).2.1) (y2 := (v0, x, v2, v3).2.2.1) (y3 := (v0, x, v2, v3).2.2.2) rfl)
                  go_wp2_with fail
                  refine KR.out.mono ?_
                  rintro e w' ⟨rfl, rfl⟩
                  go_wp2_with fail
                  go_roundw
                  case rel => exact ⟨1 + 1, (v0, x, v2, v3), by omega, by rfl, ⟨fun _ => g0 (by omega), fun _ => (by first | exact HR.out | rfl), fun h => (by omega), fun h => (by omega)⟩, HS5.out⟩
                  case measure => simp [intOf]
              · skip
                have q0 := hS.c2
                have fz : wr.frozen? ⟨b10, 2, none⟩ = false := hS.arr.frozen 2
                have cz : wr.cell? ⟨b10, 2, none⟩ = some (.int .i64 v2) := hS.arr.cell 2
                have KR := read_any C sC wr
                have HS := Lib.hid hS
                clear hS HS0
                cases hr : readF (bl C) with
                | none =>
                  have R := Lib.hid (HP.out.trans (parseLs_bad (by rw [HTF.out, g0 (by omega), Option.bind_some, g1 (by omega), Option.bind_some, hr]; rfl)))
                  rw [HAK.out] at R
                  have BEL := Lib.hid (BEL1.out.trans (HS.out.bel.mono sz1))
                  rw [hr] at KR
                  have KR := Lib.hid KR
                  clear hr
                  unfold readV at KR
                  go_wp2_with fail
                  refine KR.out.mono ?_
                  rintro e w' ⟨rfl, rfl⟩
                  go_wp2_with fail
                  go_ret3
                  exact ParsePost.nil _ 2 R.out BEL.out rfl
                | some x =>
                  rw [hr] at KR
                  have KR := Lib.hid KR
                  have HR := Lib.hid hr
                  clear hr
                  unfold readV at KR
                  have HS5 := Lib.hid (HS.out.set 2 (.int .i64 x) (y0 := (v0, v1, x, v3).1) (y1 := (v0, v1, x, v3).2.1) (y2 := (v0, v1, x, v3).2.2.1) (y3 := (v0, v1, x, v3).2.2.2) rfl)
                  go_wp2_with fail
                  refine KR.out.mono ?_
                  rintro e w' ⟨rfl, rfl⟩
                  go_wp2_with fail
                  go_roundw
                  case rel => exact ⟨2 + 1, (v0, v1, x, v3), by omega, by rfl, ⟨fun _ => g0 (by omega), fun _ => g1 (by omega), fun _ => (by first | exact HR.out | rfl), fun h => (by omega)⟩, HS5.out⟩
                  case measure => simp [intOf]
              · skip
                have q0 := hS.c3
                have fz : wr.frozen? ⟨b10, 3, none⟩ = false := hS.arr.frozen 3
                have cz : wr.cell? ⟨b10, 3, none⟩ = some (.int .i64 v3) := hS.arr.cell 3
                have KR := read_any D sD wr
                have HS := Lib.hid hS
                clear hS HS0
                cases hr : readF (bl D) with
                | none =>
                  have R := Lib.hid (HP.out.trans (parseLs_bad (by rw [HTF.out, g0 (by omega), Option.bind_some, g1 (by omega), Option.bind_some, g2 (by omega), Option.bind_some, hr]; rfl)))
                  rw [HAK.out] at R
                  have BEL := Lib.hid (BEL1.out.trans (HS.out.bel.mono sz1))
                  rw [hr] at KR
                  have KR := Lib.hid KR
                  clear hr
                  unfold readV at KR
                  go_wp2_with fail
                  refine KR.out.mono ?_
                  rintro e w' ⟨rfl, rfl⟩
                  go_wp2_with fail
                  go_ret3
                  exact ParsePost.nil _ 2 R.out BEL.out rfl
                | some x =>
                  rw [hr] at KR
                  have KR := Lib.hid KR
                  have HR := Lib.hid hr
                  clear hr
                  unfold readV at KR
                  have HS5 := Lib.hid (HS.out.set 3 (.int .i64 x) (y0 := (v0, v1, v2, x).1) (y1 := (v0, v1, v2, x).2.1) (y2 := (v0, v1, v2, x).2.2.1) (y3 := (v0, v1, v2, x).2.2.2) rfl)
                  go_wp2_with fail
                  refine KR.out.mono ?_
                  rintro e w' ⟨rfl, rfl⟩
                  go_wp2_with fail
                  go_roundw
                  case rel => exact ⟨3 + 1, (v0, v1, v2, x), by omega, by rfl, ⟨fun _ => g0 (by omega), fun _ => g1 (by omega), fun _ => g2 (by omega), fun _ => (by first | exact HR.out | rfl)⟩, HS5.out⟩
                  case measure => simp [intOf]
              · have hT : toolF a = some ⟨v0, v1, v2, v3⟩ := by rw [HTF.out, g0 (by omega), Option.bind_some, g1 (by omega), Option.bind_some, g2 (by omega), Option.bind_some, g3 (by omega)]; rfl
                have R := Lib.hid (HP.out.trans (parseLs_tool hT HNL.out))
                have n0 : wr.cell? ⟨b10, 0, none⟩ = some (.int .i64 v0) := hS.arr.cell 0
                have n1 : wr.cell? ⟨b10, 1, none⟩ = some (.int .i64 v1) := hS.arr.cell 1
                have n2 : wr.cell? ⟨b10, 2, none⟩ = some (.int .i64 v2) := hS.arr.cell 2
                have n3 : wr.cell? ⟨b10, 3, none⟩ = some (.int .i64 v3) := hS.arr.cell 3
                have szS := hS.bel.size
                have HS := Lib.hid hS
                clear hS hT g0 g1 g2 g3 HS0
                go_wp2_with (first
                  | ((with_reducible refine go_built 29 _ #[.int .i64 v0, .int .i64 v1, .int .i64 v2, .int .i64 v3] (by with_unfolding_all kernel_rfl) ?_))
                  | ((with_reducible refine go_to1 (.tmp 72) v0 v1 v2 v3 (by with_unfolding_all rfl) ?_))
                  | ((with_reducible refine go_toapp (.tmp 63) (.tmp 73) acc ⟨v0, v1, v2, v3⟩ _ (by with_unfolding_all rfl) (HS.out.own.alloc _) (by with_unfolding_all rfl) (by with_unfolding_all exact Blk.new wr _ _) (by have := HAK.out; omega) (by simp; omega) ?_); intro v' w14 hown14 hgrow; have bel14 : Below w1.heap.size w1 w14 := (HS.out.bel.alloc (by omega) _).trans (below_of_grown hgrow (by simp; omega) (fun k e => ((HS.out.own).lt k e).1)); have FF := Lib.hid (And.intro hown14 bel14); clear hown14 bel14 hgrow))
                go_roundw
                case rel => exact ⟨k + 1, acc ++ [⟨v0, v1, v2, v3⟩], _, rfl, by omega, by go_num, by rw [List.length_append, HAK.out]; rfl, R.out, FF.out.1, FF.out.2⟩
                case measure => simp [intOf]; omega
          · skip
            go_wp2_with fail
            obtain ⟨w8, hw8⟩ : ∃ w8, w3.alloc (.cells #[.int .i64 0, .int .i64 0, .int .i64 0, .int .i64 0] 53) = w8 := ⟨_, rfl⟩
            obtain ⟨b10, hb10⟩ : ∃ b10, w3.heap.size = b10 := ⟨_, rfl⟩
            rw [hw8, hb10] at HS0
            try simp only [hw8, hb10]
            go_loopw [11] (fun s11 w9 => ∃ (j : Nat) (vs : Int × Int × Int × Int), j ≤ 4 ∧ s11 = .int .i64 j ∧ ((0 < j → readF (bl A) = some vs.1) ∧ (1 < j → readF (bl B) = some vs.2.1) ∧ (2 < j → readF (bl C) = some vs.2.2.1) ∧ (3 < j → readF (bl D) = some vs.2.2.2)) ∧ RS w1 gw b10 A B C D vs.1 vs.2.1 vs.2.2.1 vs.2.2.2 v7 acc w9)
              (fun s11 _ => 4 - (intOf s11).toNat)
            case atStart => exact ⟨0, (0, 0, 0, 0), by omega, rfl, ⟨fun h => by omega, fun h => by omega, fun h => by omega, fun h => by omega⟩, HS0.out⟩
            case round =>
              obtain ⟨j, ⟨v0, v1, v2, v3⟩, hj, rfl, ⟨g0, g1, g2, g3⟩, hS⟩ := hrel
              simp only at g0 g1 g2 g3 hS
              have hj5 : j = 0 ∨ j = 1 ∨ j = 2 ∨ j = 3 ∨ j = 4 := by omega
              clear hj
              rcases hj5 with rfl | rfl | rfl | rfl | rfl
              · skip
                have q0 := hS.c0
                have fz : wr.frozen? ⟨b10, 0, none⟩ = false := hS.arr.frozen 0
                have cz : wr.cell? ⟨b10, 0, none⟩ = some (.int .i64 v0) := hS.arr.cell 0
                have KR := read_any A sA wr
                have HS := Lib.hid hS
                clear hS HS0
                cases hr : readF (bl A) with
                | none =>
                  have R := Lib.hid (HP.out.trans (parseLs_bad (by rw [HTF.out, hr]; rfl)))
                  rw [HAK.out] at R
                  have BEL := Lib.hid (BEL1.out.trans (HS.out.bel.mono sz1))
                  rw [hr] at KR
                  have KR := Lib.hid KR
                  clear hr
                  unfold readV at KR
                  go_wp2_with fail
                  refine KR.out.mono ?_
                  rintro e w' ⟨rfl, rfl⟩
                  go_wp2_with fail
                  go_ret3
                  exact ParsePost.nil _ 2 R.out BEL.out rfl
                | some x =>
                  rw [hr] at KR
                  have KR := Lib.hid KR
                  have HR := Lib.hid hr
                  clear hr
                  unfold readV at KR
                  have HS5 := Lib.hid (HS.out.set 0 (.int .i64 x) (y0 := (x, v1, v2, v3).1) (y1 := (x, v1, v2, v3).2.1) (y2 := (x, v1, v2, v3).2.2.1) (y3 := (x, v1, v2, v3).2.2.2) rfl)
                  go_wp2_with fail
                  refine KR.out.mono ?_
                  rintro e w' ⟨rfl, rfl⟩
                  go_wp2_with fail
                  go_roundw
                  case rel => exact ⟨0 + 1, (x, v1, v2, v3), by omega, by rfl, ⟨fun _ => (by first | exact HR.out | rfl), fun h => (by omega), fun h => (by omega), fun h => (by omega)⟩, HS5.out⟩
                  case measure => simp [intOf]
              · skip
                have q0 := hS.c1
                have fz : wr.frozen? ⟨b10, 1, none⟩ = false := hS.arr.frozen 1
                have cz : wr.cell? ⟨b10, 1, none⟩ = some (.int .i64 v1) := hS.arr.cell 1
                have KR := read_any B sB wr
                have HS := Lib.hid hS
                clear hS HS0
                cases hr : readF (bl B) with
                | none =>
                  have R := Lib.hid (HP.out.trans (parseLs_bad (by rw [HTF.out, g0 (by omega), Option.bind_some, hr]; rfl)))
                  rw [HAK.out] at R
                  have BEL := Lib.hid (BEL1.out.trans (HS.out.bel.mono sz1))
                  rw [hr] at KR
                  have KR := Lib.hid KR
                  clear hr
                  unfold readV at KR
                  go_wp2_with fail
                  refine KR.out.mono ?_
                  rintro e w' ⟨rfl, rfl⟩
                  go_wp2_with fail
                  go_ret3
                  exact ParsePost.nil _ 2 R.out BEL.out rfl
                | some x =>
                  rw [hr] at KR
                  have KR := Lib.hid KR
                  have HR := Lib.hid hr
                  clear hr
                  unfold readV at KR
                  have HS5 := Lib.hid (HS.out.set 1 (.int .i64 x) (y0 := (v0, x, v2, v3).1) (y1 := (v0, x, v2, v3).2.1) (y2 := (v0, x, v2, v3).2.2.1) (y3 := (v0, x, v2, v3).2.2.2) rfl)
                  go_wp2_with fail
                  refine KR.out.mono ?_
                  rintro e w' ⟨rfl, rfl⟩
                  go_wp2_with fail
                  go_roundw
                  case rel => exact ⟨1 + 1, (v0, x, v2, v3), by omega, by rfl, ⟨fun _ => g0 (by omega), fun _ => (by first | exact HR.out | rfl), fun h => (by omega), fun h => (by omega)⟩, HS5.out⟩
                  case measure => simp [intOf]
              · skip
                have q0 := hS.c2
                have fz : wr.frozen? ⟨b10, 2, none⟩ = false := hS.arr.frozen 2
                have cz : wr.cell? ⟨b10, 2, none⟩ = some (.int .i64 v2) := hS.arr.cell 2
                have KR := read_any C sC wr
                have HS := Lib.hid hS
                clear hS HS0
                cases hr : readF (bl C) with
                | none =>
                  have R := Lib.hid (HP.out.trans (parseLs_bad (by rw [HTF.out, g0 (by omega), Option.bind_some, g1 (by omega), Option.bind_some, hr]; rfl)))
                  rw [HAK.out] at R
                  have BEL := Lib.hid (BEL1.out.trans (HS.out.bel.mono sz1))
                  rw [hr] at KR
                  have KR := Lib.hid KR
                  clear hr
                  unfold readV at KR
                  go_wp2_with fail
                  refine KR.out.mono ?_
                  rintro e w' ⟨rfl, rfl⟩
                  go_wp2_with fail
                  go_ret3
                  exact ParsePost.nil _ 2 R.out BEL.out rfl
                | some x =>
                  rw [hr] at KR
                  have KR := Lib.hid KR
                  have HR := Lib.hid hr
                  clear hr
                  unfold readV at KR
                  have HS5 := Lib.hid (HS.out.set 2 (.int .i64 x) (y0 := (v0, v1, x, v3).1) (y1 := (v0, v1, x, v3).2.1) (y2 := (v0, v1, x, v3).2.2.1) (y3 := (v0, v1, x, v3).2.2.2) rfl)
                  go_wp2_with fail
                  refine KR.out.mono ?_
                  rintro e w' ⟨rfl, rfl⟩
                  go_wp2_with fail
                  go_roundw
                  case rel => exact ⟨2 + 1, (v0, v1, x, v3), by omega, by rfl, ⟨fun _ => g0 (by omega), fun _ => g1 (by omega), fun _ => (by first | exact HR.out | rfl), fun h => (by omega)⟩, HS5.out⟩
                  case measure => simp [intOf]
              · skip
                have q0 := hS.c3
                have fz : wr.frozen? ⟨b10, 3, none⟩ = false := hS.arr.frozen 3
                have cz : wr.cell? ⟨b10, 3, none⟩ = some (.int .i64 v3) := hS.arr.cell 3
                have KR := read_any D sD wr
                have HS := Lib.hid hS
                clear hS HS0
                cases hr : readF (bl D) with
                | none =>
                  have R := Lib.hid (HP.out.trans (parseLs_bad (by rw [HTF.out, g0 (by omega), Option.bind_some, g1 (by omega), Option.bind_some, g2 (by omega), Option.bind_some, hr]; rfl)))
                  rw [HAK.out] at R
                  have BEL := Lib.hid (BEL1.out.trans (HS.out.bel.mono sz1))
                  rw [hr] at KR
                  have KR := Lib.hid KR
                  clear hr
                  unfold readV at KR
                  go_wp2_with fail
                  refine KR.out.mono ?_
                  rintro e w' ⟨rfl, rfl⟩
                  go_wp2_with fail
                  go_ret3
                  exact ParsePost.nil _ 2 R.out BEL.out rfl
                | some x =>
                  rw [hr] at KR
                  have KR := Lib.hid KR
                  have HR := Lib.hid hr
                  clear hr
                  unfold readV at KR
                  have HS5 := Lib.hid (HS.out.set 3 (.int .i64 x) (y0 := (v0, v1, v2, x).1) (y1 := (v0, v1, v2, x).2.1) (y2 := (v0, v1, v2, x).2.2.1) (y3 := (v0, v1, v2, x).2.2.2) rfl)
                  go_wp2_with fail
                  refine KR.out.mono ?_
                  rintro e w' ⟨rfl, rfl⟩
                  go_wp2_with fail
                  go_roundw
                  case rel => exact ⟨3 + 1, (v0, v1, v2, x), by omega, by rfl, ⟨fun _ => g0 (by omega), fun _ => g1 (by omega), fun _ => g2 (by omega), fun _ => (by first | exact HR.out | rfl)⟩, HS5.out⟩
                  case measure => simp [intOf]
              · have hT : toolF a = some ⟨v0, v1, v2, v3⟩ := by rw [HTF.out, g0 (by omega), Option.bind_some, g1 (by omega), Option.bind_some, g2 (by omega), Option.bind_some, g3 (by omega)]; rfl
                have R := Lib.hid (HP.out.trans (parseLs_tool hT HNL.out))
                have n0 : wr.cell? ⟨b10, 0, none⟩ = some (.int .i64 v0) := hS.arr.cell 0
                have n1 : wr.cell? ⟨b10, 1, none⟩ = some (.int .i64 v1) := hS.arr.cell 1
                have n2 : wr.cell? ⟨b10, 2, none⟩ = some (.int .i64 v2) := hS.arr.cell 2
                have n3 : wr.cell? ⟨b10, 3, none⟩ = some (.int .i64 v3) := hS.arr.cell 3
                have szS := hS.bel.size
                have HS := Lib.hid hS
                clear hS hT g0 g1 g2 g3 HS0
                go_wp2_with (first
                  | ((with_reducible refine go_built 29 _ #[.int .i64 v0, .int .i64 v1, .int .i64 v2, .int .i64 v3] (by with_unfolding_all kernel_rfl) ?_))
                  | ((with_reducible refine go_to1 (.tmp 72) v0 v1 v2 v3 (by with_unfolding_all rfl) ?_))
                  | ((with_reducible refine go_toapp (.tmp 63) (.tmp 73) acc ⟨v0, v1, v2, v3⟩ _ (by with_unfolding_all rfl) (HS.out.own.alloc _) (by with_unfolding_all rfl) (by with_unfolding_all exact Blk.new wr _ _) (by have := HAK.out; omega) (by simp; omega) ?_); intro v' w14 hown14 hgrow; have bel14 : Below w1.heap.size w1 w14 := (HS.out.bel.alloc (by omega) _).trans (below_of_grown hgrow (by simp; omega) (fun k e => ((HS.out.own).lt k e).1)); have FF := Lib.hid (And.intro hown14 bel14); clear hown14 bel14 hgrow))
                go_roundw
                case rel => exact ⟨k + 1, acc ++ [⟨v0, v1, v2, v3⟩], _, rfl, by omega, by go_num, by rw [List.length_append, HAK.out]; rfl, R.out, FF.out.1, FF.out.2⟩
                case measure => simp [intOf]; omega
      · have R := Lib.hid (HP.out.trans (parseLs_bad (tool_no (by rw [HWS.out]; exact h4))))
        have d4 : (((ws.length : Nat) : Int) != 4) = true := bne_iff_ne.2 (by omega)
        obtain ⟨a5, c5, rfl⟩ := strs_own hown9
        have BEL := Lib.hid (BEL1.out.trans (BEL3.out.mono sz1))
        rw [HAK.out] at R
        clear hown9 b3 KF HWS HOWN3 HOWN HP
        go_wp2_with fail
        go_ret3
        exact ParsePost.nil _ 2 R.out BEL.out rfl
    · obtain rfl : k = N := by omega
      have e1 : decide (k < k) = false := by simp
      have e1' : decide ((k : Int) < (k : Int)) = false := by simp
      rw [List.drop_eq_nil_of_le (by have := HN.out; omega), parseLs_nil] at hp
      obtain ⟨a5, c5, rfl, hat, _⟩ := tos_own hown
      have KV := rvalid_any a5 c5 acc wr hat (by omega)
      have HOWN := Lib.hid (own_base hown sz1)
      have BEL := Lib.hid (BEL1.out.trans (bel.mono sz1))
      have szb := BEL.out.size
      cases hv : validT acc
      · rw [hv, if_neg (by decide)] at hp
        rw [hv] at KV
        have KV := Lib.hid KV
        have R := Lib.hid hp
        clear hown hp bel hat hv
        rw [hak] at KV ⊢
        go_wp2_with fail
        refine KV.out.mono ?_
        rintro e w5 ⟨rfl, b5⟩
        go_wp2_with fail
        go_ret3
        exact ParsePost.nil 0 1 R.out (BEL.out.trans (b5.mono szb)) rfl
      · rw [hv, if_pos rfl] at hp
        rw [hv] at KV
        have KV := Lib.hid KV
        have R := Lib.hid hp
        have HAK := Lib.hid hak
        clear hown hp bel hat hv
        rw [hak] at KV ⊢
        clear hak
        go_wp2_with fail
        refine KV.out.mono ?_
        rintro e w5 ⟨rfl, b5⟩
        go_wp2_with fail
        go_ret3
        exact ⟨.slice a5 acc.length c5, by rw [R.out, HAK.out]; rfl, by rw [R.out]; exact HOWN.out.kept (grown_of_below b5) (Classical.em _), BEL.out.trans (b5.mono szb)⟩
end Go.Proofs.YtlpmbjgimllmgaaDoor
