/-
  cnclaw05.spaced of a line and its tokens.
-/
import Derived.Test.YtiphekdahmiaeaaDoorSpc05
import Derived.Test.YtiphekdahmiaeaaDoorLJoin05
namespace Go.Proofs.YtiphekdahmiaeaaDoor
open Go Go.RowKit
set_option linter.unusedVariables false
attribute [local go_sem ↓] ix_run

set_option maxRecDepth 100000 in
set_option maxHeartbeats 2000000 in
theorem spaced_any (L : ByteArray) (a : Option Addr) (c : Nat) (bt : ByteArray) (ts : List TokL) (w : World) (hL : L.size ≤ 200) (hts : lexT (bl L) 0 = .ok ts) (h59 : (59 : UInt8) ∉ bl L) (hT : ToksAt w a ts) (hbt : bt.size ≤ 4) (hb : Between (bl bt)) :
    Calls Tryd.prog 20 #[.string L, .slice a ts.length c, .string bt] w fun e w' => (∃ S us, e = .returned (.string S) ∧ Told (bl S) us ∧ LikeL us ts ∧ S.size ≤ 50000) ∧ Below w.heap.size w w' := by
  have hlen := tsOf_len L
  rw [hts] at hlen
  simp only [tsOf] at hlen
  have hget : ∀ k, k < ts.length → ∃ x, ts[k]? = some x := fun k hk => ⟨ts[k], List.getElem?_eq_getElem hk⟩
  have hpiece := fun i t h => lex_piece (i := i) (t := t) hts h59 h
  have hnone : ts[ts.length]? = none := List.getElem?_eq_none_iff.2 (Nat.le_refl _)
  have hall : ∀ us : List TokL, us.length = ts.length → (∀ (j : Nat) (x y : TokL), us[j]? = some x → ts[j]? = some y → LikeT x y) → LikeL us ts := fun us h h2 => ⟨h, h2⟩
  obtain ⟨n, hn⟩ : ∃ n, ts.length = n := ⟨_, rfl⟩
  rw [hn] at hlen hget hall hnone ⊢
  rw [bl_len] at hpiece
  have HP := Lib.hid hpiece
  have HG := Lib.hid hget
  have HA := Lib.hid hall
  have HN := Lib.hid hnone
  have HT := Lib.hid hT
  have HB := Lib.hid hb
  have H5 := Lib.hid h59
  clear hpiece hget hall hn hT hb hnone hts h59
  go_enter Tryd.func20, Tryd.ntmps20
  go_wp2_with fail
  go_loopw [7, 8] (fun s4 s5 wr => ∃ (i : Nat) (S : ByteArray) (us : List TokL), s4 = .string S ∧ s5 = .int .i64 i ∧ i ≤ n ∧ S.size ≤ 204 * i ∧ Told (bl S) us ∧ us.length = i ∧ (∀ (j : Nat) (x y : TokL), us[j]? = some x → ts[j]? = some y → LikeT x y) ∧ Below w.heap.size w wr)
    (fun _ s5 _ => n - (intOf s5).toNat)
  case atStart => exact ⟨0, ⟨#[]⟩, [], rfl, rfl, by omega, by decide, told_nil, rfl, fun j x y h => by simp at h, Below.refl _ _⟩
  case round =>
    obtain ⟨i, S, us, rfl, rfl, hi, hS, htold, hul, hlike, br⟩ := hrel
    have HTo := Lib.hid htold
    have HLi := Lib.hid hlike
    have HUl := Lib.hid hul
    clear htold hlike hul
    have i0 : (0 : Int) ≤ (i : Int) := by omega
    by_cases hlt : i < n
    · have d1 : decide (i < n) = true := by simpa using hlt
      obtain ⟨x, hx⟩ := HG.out i hlt
      obtain ⟨q1, q2, q3⟩ := HP.out i x hx
      have HQ := Lib.hid q3
      have HX := Lib.hid hx
      have hTr := HT.out.below br
      obtain ⟨b, o, rfl, _, e1⟩ := hTr i x hx
      have p2 := e1 2 _ rfl
      clear e1 q3
      have hsx : (L.extract x.pos (endAt ts L.size i)).size ≤ 200 := by rw [ByteArray.size_extract]; omega
      have hg1 : ¬ S.size + (L.extract x.pos (endAt ts L.size i)).size > 9223372036854775807 := by omega
      have hg2 : ¬ (S ++ L.extract x.pos (endAt ts L.size i)).size + bt.size > 9223372036854775807 := by rw [size_app]; omega
      have hsz : (S ++ L.extract x.pos (endAt ts L.size i) ++ bt).size ≤ 204 * (i + 1) := by rw [size_app, size_app]; omega
      have hnew : ∃ t', LikeT t' x ∧ Told (bl (S ++ L.extract x.pos (endAt ts L.size i) ++ bt)) (us ++ [t']) := by
        rw [bl_append, bl_append, bl_extract, List.append_assoc]
        exact HTo.out.more HQ.out (fun hm => H5.out (List.mem_of_mem_drop (List.mem_of_mem_take hm))) HB.out
      have hrel : ∃ us' : List TokL, Told (bl (S ++ L.extract x.pos (endAt ts L.size i) ++ bt)) us' ∧ us'.length = i + 1 ∧ (∀ (j : Nat) (x y : TokL), us'[j]? = some x → ts[j]? = some y → LikeT x y) := by
        obtain ⟨t', l1, l2⟩ := hnew
        refine ⟨us ++ [t'], l2, by simp [HUl.out], fun j y z hy hz => ?_⟩
        rcases Nat.lt_or_ge j us.length with hj | hj
        · rw [List.getElem?_append_left hj] at hy
          exact HLi.out j y z hy hz
        · have hj2 := (List.getElem?_eq_some_iff.1 hy).1
          simp only [List.length_append, List.length_cons, List.length_nil] at hj2
          obtain rfl : j = us.length := by omega
          rw [List.getElem?_append_right (Nat.le_refl _), Nat.sub_self] at hy
          simp at hy
          subst hy
          rw [HUl.out, HX.out] at hz
          injection hz with hz
          subst hz
          exact l1
      have HR := Lib.hid hrel
      clear hnew hrel hsx
      have l0 : (0 : Int) ≤ (x.pos : Int) := by omega
      by_cases hl1 : i + 1 < n
      · have d2 : decide (i + 1 < n) = true := by simpa using hl1
        have d2' : decide ((i : Int) + 1 < (n : Int)) = true := by simp; omega
        obtain ⟨y, hy⟩ := HG.out (i + 1) hl1
        have he : endAt ts L.size i = y.pos := by unfold endAt; rw [hy]
        rw [he] at q1 q2 hg1 hg2 hsz HR
        obtain ⟨b', o', e', _, e2⟩ := hTr (i + 1) y hy
        injection e' with e'
        injection e' with e3 e4
        subst e3
        subst e4
        have p3 := e2 2 _ rfl
        have l1 : (x.pos : Int) ≤ (y.pos : Int) := by omega
        have l2 : (y.pos : Int) ≤ (L.size : Int) := by omega
        have d3 : decide ((y.pos : Int) < (x.pos : Int)) = false := by simp; omega
        have d4 : decide (y.pos < x.pos) = false := by simp; omega
        clear e2 hTr hy hx he q1 q2
        generalize x.pos = X at *
        generalize y.pos = Y at *
        go_wp2_with fail
        go_roundw
        case rel =>
          obtain ⟨us', r1, r2, r3⟩ := HR.out
          exact ⟨i + 1, _, us', rfl, by go_num, by omega, hsz, r1, r2, r3, br⟩
        case measure => simp [intOf] <;> omega
      · have d2 : decide (i + 1 < n) = false := by simpa using hl1
        have d2' : decide ((i : Int) + 1 < (n : Int)) = false := by simp; omega
        obtain rfl : n = i + 1 := by omega
        have he : endAt ts L.size i = L.size := by unfold endAt; rw [HN.out]
        rw [he] at q1 q2 hg1 hg2 hsz HR
        have l1 : (x.pos : Int) ≤ (L.size : Int) := by omega
        have d3 : decide ((L.size : Int) < (x.pos : Int)) = false := by simp; omega
        have d4 : decide (L.size < x.pos) = false := by simp; omega
        clear hTr hx he q1 q2
        generalize x.pos = X at *
        go_wp2_with fail
        go_roundw
        case rel =>
          obtain ⟨us', r1, r2, r3⟩ := HR.out
          exact ⟨i + 1, _, us', rfl, by go_num, by omega, hsz, r1, r2, r3, br⟩
        case measure => simp [intOf] <;> omega
    · obtain rfl : i = n := by omega
      have d1 : decide (i < i) = false := by simp
      go_wp2_with fail
      go_ret
      exact ⟨⟨S, us, rfl, HTo.out, HA.out us HUl.out HLi.out, by omega⟩, br⟩
end Go.Proofs.YtiphekdahmiaeaaDoor
