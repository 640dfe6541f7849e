/-
  Plain: canonical lists, their parts and their joins. No program.
  canon.End: any list.
-/
import Derived.Test.YtefdjdipbnnoaaaGreatDoorStageF17
import Derived.Test.YtefdjdipbnnoaaaGreatDoorCheck17
namespace Go.Proofs.YtefdjdipbnnoaaaGreatDoor
open Go Go.RowKit
set_option linter.unusedVariables false

/-- Where the first motion of a list begins. -/
def firstM : List It → Option V3
  | [] => none
  | x :: l => if motK x.kind then some x.from3 else firstM l
def anyM : List It → Bool
  | [] => false
  | x :: l => motK x.kind || anyM l
theorem chk_goodApp (m : List It) : ∀ (l : List It) (k : Nat) (p : V3) (mv : Bool) (q : V3), Good p l → (mv = true → q = p) →
    ∃ q', ((mv || anyM l) = true → q' = walkAt p l) ∧ chk (l ++ m) k false mv q = chk m (k + l.length) false (mv || anyM l) q'
  | [], k, p, mv, q, _, hq => ⟨q, by intro h; rw [show anyM [] = false from rfl, Bool.or_false] at h; exact hq h, by rw [show anyM [] = false from rfl, Bool.or_false]; rfl⟩
  | x :: l, k, p, mv, q, ⟨h1, h2, h3, h4⟩, hq => by
    have hk : decide (x.kind = 14) = false := decide_eq_false (by omega)
    have hno : ¬ (false = true ∨ (motK x.kind = true ∧ mv = true ∧ x.from3 ≠ q)) := by
      rintro (h | ⟨a, b, c⟩)
      · cases h
      · exact c ((h3 a).trans (hq b).symm)
    obtain ⟨q', e1, e2⟩ := chk_goodApp m l (k + 1) (if motK x.kind then x.to3 else p) (mv || motK x.kind) (if motK x.kind then x.to3 else q) h4 (by
      intro h
      cases hm : motK x.kind
      · rw [hm, Bool.or_false] at h
        simp [hq h]
      · simp)
    refine ⟨q', ?_, ?_⟩
    · intro h
      exact e1 (by rw [← h]; show _ = (mv || (motK x.kind || anyM l)); rw [Bool.or_assoc])
    · show (if validI x = false then _ else if _ then _ else chk (l ++ m) (k + 1) _ _ _) = _
      rw [if_neg (by rw [h1]; simp), if_neg hno, hk, e2]
      rw [show k + (x :: l).length = k + 1 + l.length by simp; omega]
      rw [show anyM (x :: l) = (motK x.kind || anyM l) from rfl, Bool.or_assoc]
theorem chk_good (l : List It) (k : Nat) (p : V3) (mv : Bool) (q : V3) (h : Good p l) (hq : mv = true → q = p) : chk l k false mv q = (k + l.length, 0) := by
  obtain ⟨q', _, e⟩ := chk_goodApp [] l k p mv q h hq
  rw [List.append_nil] at e
  rw [e]
  rfl
theorem checkL_good {l : List It} {p : V3} (h : Good p l) (hn : l.length ≤ 20000) : checkL l = (l.length, 0) := by
  unfold checkL
  rw [if_neg (by omega), chk_good l 0 p false _ h (by simp), Nat.zero_add]
theorem Good.take {l : List It} {p : V3} (h : Good p l) (k : Nat) : Good p (l.take k) := ((Good_append (l.take k) (l.drop k) p).1 (by rw [List.take_append_drop]; exact h)).1
theorem Good.drop {l : List It} {p : V3} (h : Good p l) (k : Nat) : Good (walkAt p (l.take k)) (l.drop k) := ((Good_append (l.take k) (l.drop k) p).1 (by rw [List.take_append_drop]; exact h)).2
theorem chk_join : ∀ (l : List It) (k : Nat) (p : V3) (mv : Bool) (q : V3), Good p l → ((chk l k false mv q).2 = 0 ↔ (mv = false ∨ firstM l = none ∨ firstM l = some q))
  | [], k, p, mv, q, _ => by simp [chk, firstM]
  | x :: l, k, p, mv, q, ⟨h1, h2, h3, h4⟩ => by
    have hk : decide (x.kind = 14) = false := decide_eq_false (by omega)
    show (if validI x = false then _ else if _ then _ else chk l (k + 1) _ _ _ : Nat × Int).2 = 0 ↔ _
    rw [if_neg (by rw [h1]; simp), hk]
    cases hm : motK x.kind
    · rw [if_neg (by simp)]
      rw [hm] at h4
      have := chk_join l (k + 1) p mv q h4
      simp only [firstM, hm, Bool.or_false]
      exact this
    · rw [hm] at h4
      have e := chk_good l (k + 1) x.to3 true x.to3 h4 (fun _ => rfl)
      simp only [firstM, hm, Bool.or_true, if_true, e]
      by_cases hc : mv = true ∧ x.from3 ≠ q
      · rw [if_pos (.inr ⟨trivial, hc.1, hc.2⟩)]
        simp [hc.1, hc.2]
      · rw [if_neg (by rintro (h | ⟨_, h⟩); cases h; exact hc h)]
        simp only [true_iff]
        cases mv
        · exact .inl rfl
        · exact .inr (.inr (congrArg some (Classical.byContradiction fun hn => hc ⟨rfl, hn⟩)))
theorem walkAt_any : ∀ (l : List It) (p q : V3), anyM l = true → walkAt p l = walkAt q l
  | [], _, _, h => by cases h
  | x :: l, p, q, h => by
    show walkAt _ l = walkAt _ l
    cases hm : motK x.kind
    · have h' : anyM l = true := by simpa [anyM, hm] using h
      exact walkAt_any l _ _ h'
    · rfl
/-- The law. -/
theorem join_law {a b : List It} {p q : V3} (ha : Good p a) (hb : Good q b) (hn : a.length + b.length ≤ 20000) :
    ((checkL (a ++ b)).2 = 0 ↔ (anyM a = false ∨ firstM b = none ∨ firstM b = some (walkAt (0, 0, 0) a))) := by
  unfold checkL
  rw [if_neg (by rw [List.length_append]; omega)]
  obtain ⟨q', e1, e2⟩ := chk_goodApp b a 0 p false (0, 0, 0) ha (by simp)
  rw [e2, chk_join b _ q _ q' hb, Bool.false_or]
  cases hm : anyM a
  · simp
  · rw [Bool.false_or] at e1
    rw [e1 hm, walkAt_any a p (0, 0, 0) hm]
end Go.Proofs.YtefdjdipbnnoaaaGreatDoor

namespace Go.Proofs.YtefdjdipbnnoaaaGreatDoor
open Go Go.RowKit
set_option linter.unusedVariables false
set_option linter.unusedSimpArgs false

theorem walkAt_none : ∀ (l : List It) (p : V3), anyM l = false → walkAt p l = p
  | [], _, _ => rfl
  | x :: l, p, h => by
    have h' : motK x.kind = false ∧ anyM l = false := by simpa [anyM] using h
    show walkAt _ l = p
    rw [h'.1]
    exact walkAt_none l p h'.2
theorem drop_at {l : List It} {k : Nat} {x : It} (h : l[k]? = some x) : l.drop k = x :: l.drop (k + 1) := by
  obtain ⟨hlt, e⟩ := List.getElem?_eq_some_iff.1 h
  rw [List.drop_eq_getElem_cons hlt, e]
theorem walkAt_last {l : List It} {k : Nat} {x : It} (h : l[k]? = some x) (hm : motK x.kind = true) (hd : anyM (l.drop (k + 1)) = false) (p : V3) : walkAt p l = x.to3 := by
  conv => lhs; rw [← List.take_append_drop k l, walkAt_append, drop_at h]
  show walkAt _ (l.drop (k + 1)) = _
  rw [hm]
  exact walkAt_none _ _ hd
attribute [local go_sem] itA_0 itA_1 itA_2 itA_3 itA_4 itA_5 itA_6 itA_7 itA_8 itA_9 itA_10 itA_11 itA_12 itA_13 itA_14 itA_15 itA_16 itA_17 itA_18 itA_19 itA_20 itA_21
set_option maxRecDepth 100000 in
set_option maxHeartbeats 4000000 in
theorem cend_any (a : Option Addr) (c : Nat) (l : List It) (p : V3) (w : World) (h : ItsAt w a l) (hn : l.length ≤ 9223372036854775807) :
    Calls Tryz.prog 15 #[.slice a l.length c, .agg (v3A p)] w fun e w' => e = .returned (.agg (v3A (walkAt p l))) ∧ Below w.heap.size w w' := by
  obtain ⟨n, hln⟩ : ∃ n, l.length = n := ⟨_, rfl⟩
  have HLN := Lib.hid hln
  have H := Lib.hid h
  have HG := Lib.hid (fun k (hk : k < n) => (⟨l[k]'(by omega), List.getElem?_eq_getElem _⟩ : ∃ x, l[k]? = some x))
  obtain ⟨q, hq⟩ : ∃ q, walkAt p l = q := ⟨_, rfl⟩
  have HQ := Lib.hid hq
  obtain ⟨px, py, pz⟩ := p
  rw [hln] at hn ⊢
  rw [hq]
  have hw1 : IntKind.i64.wrap ((n : Int) - 1) = (n : Int) - 1 := by rw [IntKind.wrap_i64]; omega
  clear h hln hq
  show Calls _ _ #[.slice a n c, .agg #[.int .i64 px, .int .i64 py, .int .i64 pz]] w _
  go_enter Tryz.func15, Tryz.ntmps15
  go_wp2_with fail
  go_loopw [5] (fun s5 wr => ∃ (k : Nat) (i : Int), k ≤ n ∧ i = (k : Int) - 1 ∧ s5 = .int .i64 i ∧ anyM (l.drop k) = false ∧ Blk wr w.heap.size 23 #[.int .i64 px, .int .i64 py, .int .i64 pz] ∧ Blk wr (w.heap.size + 1) 23 #[.int .i64 0, .int .i64 0, .int .i64 0] ∧ Below w.heap.size w wr)
    (fun s5 _ => (intOf s5 + 1).toNat)
  case atStart => exact ⟨n, _, Nat.le_refl _, rfl, rfl, by rw [List.drop_eq_nil_of_le (by have := HLN.out; omega)]; rfl, (Blk.new _ _ _).alloc _, blk_new1 _ _ _ _, ((Below.refl _ _).alloc (Nat.le_refl _) _).alloc (by simp) _⟩
  case round =>
    obtain ⟨k, i, hk, hi, rfl, hno, hp, hz, bel⟩ := hrel
    have HNO := Lib.hid hno
    have HP := Lib.hid hp
    have HZ := Lib.hid hz
    have BEL := Lib.hid bel
    have sz := bel.size
    clear hno hp hz bel
    cases k with
    | zero =>
      obtain rfl : i = -1 := by omega
      have EQ : q = (px, py, pz) := by rw [← HQ.out]; exact walkAt_none _ _ (by have := HNO.out; simpa using this)
      subst EQ
      have c0 := HP.out.cell' 0 rfl
      have c1 := HP.out.cell' 1 rfl
      have c2 := HP.out.cell' 2 rfl
      have f0 := HZ.out.frozen 0
      have f1 := HZ.out.frozen 1
      have f2 := HZ.out.frozen 2
      have z0 := HZ.out.cell' 0 rfl
      have z1 := HZ.out.cell' 1 rfl
      have z2 := HZ.out.cell' 2 rfl
      clear hi
      go_wp2_with fail
      refine bodyPost_ret (results_cell_row rfl _ _ (w.heap.size + 1) 23 #[.int .i64 px, .int .i64 py, .int .i64 pz] (0, 0) _ rfl (((HZ.out.put 0 _).put 1 _).put 2 _) Tryz.underlying23 rfl (by kernel_rfl)) rfl ?_
      exact ⟨rfl, ((BEL.out.setCell (by show w.heap.size ≤ w.heap.size + 1; omega) _).setCell (by show w.heap.size ≤ w.heap.size + 1; omega) _).setCell (by show w.heap.size ≤ w.heap.size + 1; omega) _⟩
    | succ j =>
      obtain rfl : i = (j : Int) := by omega
      obtain ⟨x, hx⟩ := HG.out j (by omega)
      obtain ⟨b, o, rfl, _, hc⟩ := H.out.below BEL.out j x hx
      have c0 := hc 0 _ rfl
      have c5 := hc 5 _ rfl
      have c6 := hc 6 _ rfl
      have c7 := hc 7 _ rfl
      simp only [Nat.add_zero] at c0
      have HX := Lib.hid hx
      clear hx hc hi
      have i1 : (0 : Int) ≤ (j : Int) := by omega
      have i2 : (j : Int) < (n : Int) := by omega
      have d0 : decide ((j : Int) ≥ 0) = true := by simp
      have d0' : decide (0 ≤ (j : Int)) = true := by simp
      have KM := Lib.hid (motionK_any x.kind wr)
      obtain ⟨mt, hmt⟩ : ∃ b, motK x.kind = b := ⟨_, rfl⟩
      rw [hmt] at KM
      have HMT := Lib.hid hmt
      clear hmt
      go_wp2_with fail
      refine KM.out.mono ?_
      rintro e w' ⟨rfl, rfl⟩
      cases mt
      · go_wp2_with fail
        go_roundw
        case rel => exact ⟨j, _, by omega, rfl, by go_num, by rw [drop_at HX.out]; show (motK x.kind || anyM (l.drop (j + 1))) = false; rw [HMT.out]; exact HNO.out, HP.out, HZ.out, BEL.out⟩
        case measure => simp [intOf]
      · have EQ : q = x.to3 := by rw [← HQ.out]; exact walkAt_last HX.out HMT.out HNO.out _
        subst EQ
        have f0 := HZ.out.frozen 0
        have f1 := HZ.out.frozen 1
        have f2 := HZ.out.frozen 2
        have z0 := HZ.out.cell' 0 rfl
        have z1 := HZ.out.cell' 1 rfl
        have z2 := HZ.out.cell' 2 rfl
        go_wp2_with fail
        refine bodyPost_ret (results_cell_row rfl _ _ (w.heap.size + 1) 23 #[.int .i64 x.tx, .int .i64 x.ty, .int .i64 x.tz] (0, 0) _ rfl (((HZ.out.put 0 _).put 1 _).put 2 _) Tryz.underlying23 rfl (by kernel_rfl)) rfl ?_
        exact ⟨rfl, ((BEL.out.setCell (by show w.heap.size ≤ w.heap.size + 1; omega) _).setCell (by show w.heap.size ≤ w.heap.size + 1; omega) _).setCell (by show w.heap.size ≤ w.heap.size + 1; omega) _⟩
end Go.Proofs.YtefdjdipbnnoaaaGreatDoor
