/-
  cnclaw05.alike of two lists of tokens that differ in their offsets only. No condition.
-/
import Derived.Test.YtiphekdahmiaeaaDoorLTok05
import Derived.Test.YtiphekdahmiaeaaDoorChain05
import Derived.Test.YtiphekdahmiaeaaDoorDoor05
namespace Go.Proofs.YtiphekdahmiaeaaDoor
open Go Go.RowKit
set_option linter.unusedVariables false

def LikeT (t u : TokL) : Prop := t.kind = u.kind ∧ t.n = u.n ∧ t.text = u.text
def LikeL (ts us : List TokL) : Prop := ts.length = us.length ∧ ∀ (i : Nat) (t u : TokL), ts[i]? = some t → us[i]? = some u → LikeT t u
theorem like_shift (ts : List TokL) (d : Nat) : LikeL (ts.map (shiftK d)) ts := by
  refine ⟨by simp, fun i t u h1 h2 => ?_⟩
  rw [List.getElem?_map, h2] at h1
  rw [Option.map_some] at h1
  injection h1 with h1
  subst h1
  exact ⟨rfl, rfl, rfl⟩
theorem like_symm {ts us : List TokL} (h : LikeL ts us) : LikeL us ts := ⟨h.1.symm, fun i t u h1 h2 => by obtain ⟨a, b, c⟩ := h.2 i u t h2 h1; exact ⟨a.symm, b.symm, c.symm⟩⟩
theorem ToksAt.take {W : World} {a : Option Addr} {ts us : List TokL} (h : ToksAt W a (ts ++ us)) : ToksAt W a ts := fun i t hi => h i t (by rw [List.getElem?_append_left (List.getElem?_eq_some_iff.1 hi).1]; exact hi)
theorem ToksAt.drop {W : World} {b o : Nat} {ts us : List TokL} (h : ToksAt W (some ⟨b, o, none⟩) (ts ++ us)) : ToksAt W (some ⟨b, o + ts.length * 4, none⟩) us := fun i t hi => by
  obtain ⟨b', o', e, hl, hc⟩ := h (ts.length + i) t (by rw [List.getElem?_append_right (by omega), Nat.add_sub_cancel_left]; exact hi)
  injection e with e
  injection e with e1 e2
  subst e1
  subst e2
  exact ⟨b, o + ts.length * 4, rfl, hl, fun j v hv => by have := hc j v hv; rw [show o + (ts.length + i) * 4 + j = o + ts.length * 4 + i * 4 + j by omega] at this; exact this⟩
/-- As TokU, with the capacity. -/
def TokV (r : Res) (n : Nat) (w : World) (e : Ending) (w' : World) : Prop := ∃ a c, e = .returned (.tuple #[.slice a (tsOf r).length c, .int .i64 (nOf n r), .int .i64 (eOf r)]) ∧ ToksAt w' a (tsOf r) ∧ Below w.heap.size w w' ∧
  (a = none → (tsOf r).length = 0 ∧ c = 0) ∧ (∀ x, a = some x → ∃ b o, x = ⟨b, o, none⟩) ∧ (tsOf r).length ≤ c ∧ c ≤ 9223372036854775807
theorem tok_v {r : Res} {n : Nat} {w : World} {e : Ending} {w' : World} (h : TokPost r n w e w') : TokV r n w e w' := by
  cases r with
  | bad p =>
    obtain ⟨rfl, hb⟩ := h
    exact ⟨none, 0, rfl, fun i t hi => by simp [tsOf] at hi, hb, fun _ => ⟨rfl, rfl⟩, fun x e => (by cases e), Nat.le_refl _, by omega⟩
  | ok ts =>
    obtain ⟨v, rfl, ho, hb⟩ := h
    obtain ⟨a, c, e, hT, hn⟩ := toks_own ho
    rcases ho.2 with ⟨e1, e2⟩ | ⟨g, cap, cur, e1, hg, hh, hc, hm, _⟩
    · rw [e] at e1
      injection e1 with q1 q2 q3
      subst q1
      subst q3
      exact ⟨none, 0, by rw [e]; rfl, hT, hb, fun _ => ⟨e2, rfl⟩, fun x e => (by cases e), by show ts.length ≤ 0; omega, by omega⟩
    · rw [e] at e1
      injection e1 with q1 q2 q3
      subst q1
      subst q3
      unfold maxLen at hm
      exact ⟨_, _, by rw [e]; rfl, hT, hb, fun e => (by cases e), fun x e => (by injection e with e; exact ⟨g, 0, e.symm⟩), hc, by omega⟩
theorem tokens_v (s : ByteArray) (hs : s.size ≤ 1000000) (w : World) (hN : NamesIs w) (hw0 : 0 < w.heap.size) : Calls Tryd.prog 14 #[.string s] w (TokV (lexT (bl s) 0) s.size w) := (tokens_any s hs w hN hw0).mono fun _ _ h => tok_v h
set_option maxRecDepth 100000 in
set_option maxHeartbeats 1000000 in
theorem alike_any (a1 a2 : Option Addr) (c d : Nat) (ts us : List TokL) (w : World) (h1 : ToksAt w a1 ts) (h2 : ToksAt w a2 us) (hl : LikeL ts us) (hn : ts.length ≤ 1000000) :
    Calls Tryd.prog 21 #[.slice a1 ts.length c, .slice a2 us.length d] w fun e w' => e = .returned (.bool true) ∧ Below w.heap.size w w' := by
  obtain ⟨hl1, hl2⟩ := hl
  have hget : ∀ k, k < ts.length → ∃ x y, ts[k]? = some x ∧ us[k]? = some y ∧ LikeT x y := fun k hk => ⟨ts[k], us[k], List.getElem?_eq_getElem hk, List.getElem?_eq_getElem (by omega), hl2 k _ _ (List.getElem?_eq_getElem hk) (List.getElem?_eq_getElem (by omega))⟩
  obtain ⟨n, hln⟩ : ∃ n, ts.length = n := ⟨_, rfl⟩
  rw [hln] at hn hget hl1
  rw [← hl1, hln]
  have HG := Lib.hid hget
  clear hln hget hl1 hl2
  go_enter Tryd.func21, Tryd.ntmps21
  go_wp2
  go_loopw [5] (fun v wr => ∃ k q : Nat, k ≤ n ∧ v = .int .i64 k ∧ wr = w.drewN q) (fun v _ => n - (intOf v).toNat)
  case atStart => exact ⟨0, 0, by omega, rfl, rfl⟩
  case round =>
    obtain ⟨k, q, hk, rfl, rfl⟩ := hrel
    have belq : Below w.heap.size w (w.drewN q) := below_drewN (Below.refl _ _) q
    by_cases hlt : k < n
    · obtain ⟨x, y, hx, hy, y1, y2, y3⟩ := HG.out k hlt
      obtain ⟨b1, o1, rfl, _, e1⟩ := h1 k x hx
      obtain ⟨b2, o2, rfl, _, e2⟩ := h2 k y hy
      have p0 := e1 0 _ rfl
      have p1 := e1 1 _ rfl
      have p3 := e1 3 _ rfl
      have q0 := e2 0 _ rfl
      have q1 := e2 1 _ rfl
      have q3 := e2 3 _ rfl
      rw [Nat.add_zero] at p0 q0
      rw [← y1] at q0
      rw [← y2] at q1
      rw [← y3] at q3
      have i0 : (0 : Int) ≤ (k : Int) := by omega
      have i1 : (k : Int) < (n : Int) := by omega
      have d1 : decide (k < n) = true := by simpa using hlt
      generalize x.kind = xk at *
      generalize x.n = xn at *
      generalize mkB x.text = B at *
      clear e1 e2 h1 h2 hx hy y1 y2 y3
      go_wp2_with fail
      go_quiet (fail)
      go_wp2_with fail
      go_roundw
      case rel => exact ⟨k + 1, _, by omega, by go_num, rfl⟩
      case measure => simp [intOf]; omega
    · obtain rfl : k = n := by omega
      have d1 : decide (k < k) = false := by simp
      go_wp2_with fail
      go_ret
      exact ⟨rfl, belq⟩
end Go.Proofs.YtiphekdahmiaeaaDoor
