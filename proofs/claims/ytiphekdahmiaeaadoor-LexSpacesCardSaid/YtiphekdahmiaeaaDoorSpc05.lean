/-
  A line is cut at its tokens; what comes of it with separators between. No condition.
-/
import Derived.Test.YtiphekdahmiaeaaDoorOff05
import Derived.Test.YtiphekdahmiaeaaDoorAlike05
namespace Go.Proofs.YtiphekdahmiaeaaDoor
open Go Go.RowKit
set_option linter.unusedVariables false

/-- A line cut where a token stands, or at its end. -/
theorem lex_cut : ∀ (n : Nat) (u v : List UInt8) (p : Nat) (ts : List TokL), u.length ≤ n → lexT (u ++ v) p = .ok ts → (59 : UInt8) ∉ u → (v = [] ∨ ∃ t ∈ ts, t.pos = p + u.length) →
    ∃ us rs, ts = us ++ rs ∧ lexT u p = .ok us ∧ lexT v (p + u.length) = .ok rs
  | _, [], v, p, ts, _, h, _, _ => ⟨[], ts, rfl, rfl, h⟩
  | 0, c :: u, v, p, ts, hn, _, _, _ => by simp at hn
  | n + 1, c :: u, v, p, ts, hn, h, h59, hc => by
    have hne : c :: u ++ v ≠ [] := by simp
    cases hs : stepL (c :: u ++ v) with
    | none => rw [lexT_bad hne hs] at h; cases h
    | some xk =>
      obtain ⟨x, k⟩ := xk
      have hk := step_pos hs
      have hlen : (c :: u ++ v).length = (c :: u).length + v.length := List.length_append
      have hku : k ≤ (c :: u).length := by
        rcases hc with rfl | ⟨t, ht, hp⟩
        · rw [hlen] at hk; simp only [List.length_nil] at hk; omega
        · rcases Nat.lt_or_ge (c :: u).length k with hlt | hge
          · exfalso
            have hl0 : 0 < (c :: u).length := by simp
            have hge : ∀ qs, lexT ((c :: u ++ v).drop k) (p + k) = .ok qs → t ∈ qs → False := fun qs hq hm => by
              obtain ⟨i, hi, e⟩ := List.mem_iff_getElem.1 hm
              obtain ⟨o, e1, _⟩ := (lexF_offs _ _ _ _ hq).at_ i t (by rw [← e]; exact List.getElem?_eq_getElem hi)
              omega
            cases x with
            | none =>
              rw [lexT_skip hs] at h
              exact hge ts h ht
            | some y =>
              obtain ⟨kd, nn, tx⟩ := y
              rw [lexT_tok hs] at h
              cases hr : lexT ((c :: u ++ v).drop k) (p + k) with
              | bad q => rw [hr] at h; cases h
              | ok qs =>
                rw [hr] at h
                injection h with h
                subst h
                rcases List.mem_append.1 ht with ht | ht
                · rw [List.mem_singleton.1 ht] at hp
                  simp only at hp
                  omega
                · exact hge qs hr ht
          · exact hge
      have hd : ((c :: u).drop k).length = (c :: u).length - k := List.length_drop
      have hu : stepL (c :: u) = some (x, k) := by
        have := step_sep hs hku h59 (v' := []) (.inl rfl)
        rwa [List.append_nil] at this
      have h59' : (59 : UInt8) ∉ (c :: u).drop k := fun hm => h59 (List.mem_of_mem_drop hm)
      have hpk : p + k + ((c :: u).drop k).length = p + (c :: u).length := by omega
      simp only [List.length_cons] at hn hd hpk
      cases x with
      | none =>
        rw [lexT_skip hs, List.drop_append_of_le_length hku] at h
        obtain ⟨us, rs, e1, e2, e3⟩ := lex_cut n _ v (p + k) ts (by omega) h h59' (by
          rcases hc with hc | ⟨t, ht, hp⟩
          · exact .inl hc
          · exact .inr ⟨t, ht, by simp only [List.length_cons] at hp; omega⟩)
        refine ⟨us, rs, e1, by rw [lexT_skip hu]; exact e2, ?_⟩
        rw [hpk] at e3
        exact e3
      | some y =>
        obtain ⟨kd, nn, tx⟩ := y
        rw [lexT_tok hs, List.drop_append_of_le_length hku] at h
        cases hr : lexT ((c :: u).drop k ++ v) (p + k) with
        | bad q => rw [hr] at h; cases h
        | ok qs =>
          rw [hr] at h
          injection h with h
          subst h
          obtain ⟨us, rs, e1, e2, e3⟩ := lex_cut n _ v (p + k) qs (by omega) hr h59' (by
            rcases hc with hc | ⟨t, ht, hp⟩
            · exact .inl hc
            · rcases List.mem_append.1 ht with ht | ht
              · rw [List.mem_singleton.1 ht] at hp
                simp only [List.length_cons] at hp
                omega
              · exact .inr ⟨t, ht, by simp only [List.length_cons] at hp; omega⟩)
          refine ⟨⟨kd, nn, p, tx⟩ :: us, rs, by rw [e1]; rfl, by rw [lexT_tok hu, e2]; rfl, ?_⟩
          rw [hpk] at e3
          exact e3

theorem Offs.lt {l : List UInt8} {p : Nat} {ts : List TokL} (h : Offs l p ts) {i j : Nat} {t u : TokL} (hij : i < j) (ht : ts[i]? = some t) (hu : ts[j]? = some u) : t.pos < u.pos := by
  induction j generalizing u with
  | zero => omega
  | succ j ih =>
    have hj := (List.getElem?_eq_some_iff.1 hu).1
    have hm : ts[j]? = some ts[j] := List.getElem?_eq_getElem (by omega)
    have h2 := h.up j _ u hm hu
    by_cases e : i = j
    · subst e
      rw [hm] at ht
      injection ht with ht
      rw [← ht]
      exact h2
    · have := ih (by omega) hm
      omega
/-- Where the piece of token i ends. -/
def endAt (ts : List TokL) (n i : Nat) : Nat := match ts[i + 1]? with | some t => t.pos | none => n
theorem lex_from {l : List UInt8} {ts : List TokL} (h : lexT l 0 = .ok ts) (h59 : (59 : UInt8) ∉ l) {i : Nat} {t : TokL} (hi : ts[i]? = some t) : lexT (l.drop t.pos) t.pos = .ok (ts.drop i) := by
  have ho := lexF_offs _ _ _ _ h
  obtain ⟨o, e1, e2, _⟩ := ho.at_ i t hi
  rw [Nat.zero_add] at e1
  have hl : (l.take t.pos).length = t.pos := by rw [List.length_take]; omega
  have hm : t ∈ ts := List.mem_of_getElem? hi
  have h' : lexT (l.take t.pos ++ l.drop t.pos) 0 = .ok ts := by rw [List.take_append_drop]; exact h
  obtain ⟨us, rs, q1, q2, q3⟩ := lex_cut _ _ _ 0 ts (Nat.le_refl _) h' (fun hm => h59 (List.mem_of_mem_take hm)) (.inr ⟨t, hm, by rw [hl]; omega⟩)
  rw [hl, Nat.zero_add] at q3
  have hu := lexF_offs _ _ _ _ q2
  have hr := lexF_offs _ _ _ _ q3
  have hlt := (List.getElem?_eq_some_iff.1 hi).1
  have hlen : us.length = i := by
    rcases Nat.lt_trichotomy us.length i with hh | hh | hh
    · have hx : rs[0]? = ts[us.length]? := by rw [q1, List.getElem?_append_right (Nat.le_refl _), Nat.sub_self]
      have hy : ts[us.length]? = some ts[us.length] := List.getElem?_eq_getElem (by omega)
      obtain ⟨o', w1, _⟩ := hr.at_ 0 _ (hx.trans hy)
      have := ho.lt hh hy hi
      omega
    · exact hh
    · have hx : us[i]? = some t := by rw [q1, List.getElem?_append_left hh] at hi; exact hi
      obtain ⟨o', w1, w2, _⟩ := hu.at_ i t hx
      rw [hl] at w2
      omega
  rw [q3, q1, ← hlen, List.drop_left]
theorem lex_piece {l : List UInt8} {ts : List TokL} (h : lexT l 0 = .ok ts) (h59 : (59 : UInt8) ∉ l) {i : Nat} {t : TokL} (hi : ts[i]? = some t) :
    t.pos ≤ endAt ts l.length i ∧ endAt ts l.length i ≤ l.length ∧ lexT ((l.drop t.pos).take (endAt ts l.length i - t.pos)) t.pos = .ok [t] := by
  have ho := lexF_offs _ _ _ _ h
  obtain ⟨o, e1, e2, _⟩ := ho.at_ i t hi
  rw [Nat.zero_add] at e1
  have hf := lex_from h h59 hi
  have hlt := (List.getElem?_eq_some_iff.1 hi).1
  have hd : ts.drop i = t :: ts.drop (i + 1) := by
    rw [List.drop_eq_getElem_cons hlt]
    congr 1
    rw [List.getElem?_eq_getElem hlt] at hi
    injection hi
  have hD : (l.drop t.pos).length = l.length - t.pos := List.length_drop
  unfold endAt
  cases hx : ts[i + 1]? with
  | none =>
    simp only
    refine ⟨by omega, Nat.le_refl _, ?_⟩
    have h0 : ts.drop (i + 1) = [] := List.drop_eq_nil_of_le (List.getElem?_eq_none_iff.1 hx)
    rw [List.take_of_length_le (by omega), hf, hd, h0]
  | some u =>
    simp only
    have hup := ho.up i t u hi hx
    obtain ⟨o2, x1, x2, _⟩ := ho.at_ (i + 1) u hx
    rw [Nat.zero_add] at x1
    refine ⟨by omega, by omega, ?_⟩
    have hl : ((l.drop t.pos).take (u.pos - t.pos)).length = u.pos - t.pos := by rw [List.length_take, hD]; omega
    have h' : lexT ((l.drop t.pos).take (u.pos - t.pos) ++ (l.drop t.pos).drop (u.pos - t.pos)) t.pos = .ok (ts.drop i) := by rw [List.take_append_drop]; exact hf
    have hum : u ∈ ts.drop i := by rw [hd]; exact List.mem_cons_of_mem _ (List.mem_of_getElem? (i := 0) (by rw [List.getElem?_drop]; exact hx))
    obtain ⟨us, rs, q1, q2, q3⟩ := lex_cut _ _ _ t.pos (ts.drop i) (Nat.le_refl _) h' (fun hm => h59 (List.mem_of_mem_drop (List.mem_of_mem_take hm))) (.inr ⟨u, hum, by rw [hl]; omega⟩)
    rw [q2]
    have hu := lexF_offs _ _ _ _ q2
    have hr := lexF_offs _ _ _ _ q3
    rw [hl] at hr
    have hg : ∀ j, (us ++ rs)[j]? = ts[i + j]? := fun j => by rw [← q1, List.getElem?_drop]
    have hlen : us.length = 1 := by
      rcases Nat.lt_trichotomy us.length 1 with hh | hh | hh
      · have hus : us = [] := List.length_eq_zero_iff.1 (by omega)
        subst hus
        have := hg 0
        rw [List.nil_append, Nat.add_zero, hi] at this
        obtain ⟨o', w1, _⟩ := hr.at_ 0 t this
        omega
      · exact hh
      · have := hg 1
        rw [List.getElem?_append_left hh, hx] at this
        obtain ⟨o', w1, w2, _⟩ := hu.at_ 1 u this
        rw [hl] at w2
        omega
    match us, hlen with
    | [y], _ =>
      have := hg 0
      rw [Nat.add_zero, hi] at this
      simp at this
      rw [this]

/-! ### With separators -/
/-- A list of bytes whose tokens are known, whatever stands behind it. -/
def Told (S : List UInt8) (us : List TokL) : Prop := ∀ rest, lexT (S ++ rest) 0 = Res.join us (lexT rest S.length)
theorem told_nil : Told [] [] := fun rest => by rw [List.nil_append, List.length_nil, Res.join_nil]
theorem Told.ok {S : List UInt8} {us : List TokL} (h : Told S us) : lexT S 0 = .ok us := by
  have := h []
  rw [List.append_nil] at this
  rw [this]
  show Res.ok (us ++ []) = _
  rw [List.append_nil]
/-- What separates: begins with a blank, and is skipped. -/
structure Between (b : List UInt8) : Prop where
  sep : ∀ rest, Sep (b ++ rest)
  skip : ∀ rest p, lexT (b ++ rest) p = lexT rest (p + b.length)
theorem between_space : Between [32] := ⟨fun rest => .inr ⟨32, rest, rfl, .inl rfl⟩, fun rest p => lex_space p⟩
theorem between_comment : Between [9, 40, 120, 41] := by
  refine ⟨fun rest => .inr ⟨9, _, rfl, .inr rfl⟩, fun rest p => ?_⟩
  have h1 : stepL (9 :: 40 :: 120 :: 41 :: rest) = some (none, 1) := by rw [stepL]; rfl
  have hi : Lib.indexByte (40 :: 120 :: 41 :: rest) 41 = 2 := by
    have a : Lib.indexByte (41 :: rest) 41 = 0 := by rw [Lib.indexByte]; rfl
    have b : Lib.indexByte (120 :: 41 :: rest) 41 = 1 := by rw [Lib.indexByte, a]; rfl
    rw [Lib.indexByte, b]
    rfl
  have h2 : stepL (40 :: 120 :: 41 :: rest) = some (none, 3) := by
    rw [stepL, if_neg (by decide), if_neg (by decide), if_pos rfl, hi]
    rfl
  show lexT (9 :: 40 :: 120 :: 41 :: rest) p = _
  rw [lexT_skip h1]
  show lexT (40 :: 120 :: 41 :: rest) (p + 1) = _
  rw [lexT_skip h2]
  rfl
theorem shift_join (d : Nat) (a : List TokL) (r : Res) : Res.shift d (Res.join a r) = Res.join (a.map (shiftK d)) (Res.shift d r) := by cases r <;> simp [Res.join, Res.shift]
theorem Told.more {S P b : List UInt8} {us : List TokL} {t : TokL} (h : Told S us) (hP : lexT P t.pos = .ok [t]) (h59 : (59 : UInt8) ∉ P) (hb : Between b) : ∃ t', LikeT t' t ∧ Told (S ++ (P ++ b)) (us ++ [t']) := by
  have h0 : ∃ t0, lexT P 0 = .ok [t0] ∧ LikeT t0 t := by
    rw [lexT_shift] at hP
    cases hr : lexT P 0 with
    | bad q => rw [hr] at hP; cases hP
    | ok qs =>
      rw [hr] at hP
      injection hP with hP
      cases qs with
      | nil => simp at hP
      | cons t0 q =>
        simp at hP
        obtain ⟨e, rfl⟩ := hP
        exact ⟨t0, rfl, by rw [← e]; exact ⟨rfl, rfl, rfl⟩⟩
  obtain ⟨t0, h0, hl⟩ := h0
  refine ⟨shiftK S.length t0, hl, fun rest => ?_⟩
  have e1 : S ++ (P ++ b) ++ rest = S ++ (P ++ (b ++ rest)) := by simp
  rw [e1, h, lexT_shift (P ++ (b ++ rest)), lex_sep h0 h59 (hb.sep rest), hb.skip, shift_join, ← Res.join_join]
  congr 2
  rw [lexT_shift rest (P.length + b.length), lexT_shift rest (S ++ (P ++ b)).length]
  cases lexT rest 0 with
  | bad q => simp [Res.shift]; omega
  | ok qs => simp [Res.shift, shiftK, Function.comp_def]; intros; omega
end Go.Proofs.YtiphekdahmiaeaaDoor
