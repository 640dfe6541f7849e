/-
  Plain: canonical lists, their parts and their joins. No program.
-/
import Derived.Test.YtefdjdipbnnoaaaDoorStageF17
namespace Go.Proofs.YtefdjdipbnnoaaaDoor
open Go Go.RowKit
set_option linter.unusedVariables false

/-- Where the first motion of a list begins. -/
def firstM : List It → Option V3
  | [] => none
  | x :: l => if motK x.kind then some x.from3 else firstM l
def anyM : List It → Bool
  | [] => false
  | x :: l => motK x.kind || anyM l
theorem chk_goodApp (m : List It) : ∀ (l : List It) (k : Nat) (p : V3) (mv : Bool) (q : V3), Good p l → (mv = true → q = p) →
    ∃ q', ((mv || anyM l) = true → q' = walkAt p l) ∧ chk (l ++ m) k false mv q = chk m (k + l.length) false (mv || anyM l) q'
  | [], k, p, mv, q, _, hq => ⟨q, by intro h; rw [show anyM [] = false from rfl, Bool.or_false] at h; exact hq h, by rw [show anyM [] = false from rfl, Bool.or_false]; rfl⟩
  | x :: l, k, p, mv, q, ⟨h1, h2, h3, h4⟩, hq => by
    have hk : decide (x.kind = 14) = false := decide_eq_false (by omega)
    have hno : ¬ (false = true ∨ (motK x.kind = true ∧ mv = true ∧ x.from3 ≠ q)) := by
      rintro (h | ⟨a, b, c⟩)
      · cases h
      · exact c ((h3 a).trans (hq b).symm)
    obtain ⟨q', e1, e2⟩ := chk_goodApp m l (k + 1) (if motK x.kind then x.to3 else p) (mv || motK x.kind) (if motK x.kind then x.to3 else q) h4 (by
      intro h
      cases hm : motK x.kind
      · rw [hm, Bool.or_false] at h
        simp [hq h]
      · simp)
    refine ⟨q', ?_, ?_⟩
    · intro h
      exact e1 (by rw [← h]; show _ = (mv || (motK x.kind || anyM l)); rw [Bool.or_assoc])
    · show (if validI x = false then _ else if _ then _ else chk (l ++ m) (k + 1) _ _ _) = _
      rw [if_neg (by rw [h1]; simp), if_neg hno, hk, e2]
      rw [show k + (x :: l).length = k + 1 + l.length by simp; omega]
      rw [show anyM (x :: l) = (motK x.kind || anyM l) from rfl, Bool.or_assoc]
theorem chk_good (l : List It) (k : Nat) (p : V3) (mv : Bool) (q : V3) (h : Good p l) (hq : mv = true → q = p) : chk l k false mv q = (k + l.length, 0) := by
  obtain ⟨q', _, e⟩ := chk_goodApp [] l k p mv q h hq
  rw [List.append_nil] at e
  rw [e]
  rfl
theorem checkL_good {l : List It} {p : V3} (h : Good p l) (hn : l.length ≤ 20000) : checkL l = (l.length, 0) := by
  unfold checkL
  rw [if_neg (by omega), chk_good l 0 p false _ h (by simp), Nat.zero_add]
theorem Good.take {l : List It} {p : V3} (h : Good p l) (k : Nat) : Good p (l.take k) := ((Good_append (l.take k) (l.drop k) p).1 (by rw [List.take_append_drop]; exact h)).1
theorem Good.drop {l : List It} {p : V3} (h : Good p l) (k : Nat) : Good (walkAt p (l.take k)) (l.drop k) := ((Good_append (l.take k) (l.drop k) p).1 (by rw [List.take_append_drop]; exact h)).2
theorem chk_join : ∀ (l : List It) (k : Nat) (p : V3) (mv : Bool) (q : V3), Good p l → ((chk l k false mv q).2 = 0 ↔ (mv = false ∨ firstM l = none ∨ firstM l = some q))
  | [], k, p, mv, q, _ => by simp [chk, firstM]
  | x :: l, k, p, mv, q, ⟨h1, h2, h3, h4⟩ => by
    have hk : decide (x.kind = 14) = false := decide_eq_false (by omega)
    show (if validI x = false then _ else if _ then _ else chk l (k + 1) _ _ _ : Nat × Int).2 = 0 ↔ _
    rw [if_neg (by rw [h1]; simp), hk]
    cases hm : motK x.kind
    · rw [if_neg (by simp)]
      rw [hm] at h4
      have := chk_join l (k + 1) p mv q h4
      simp only [firstM, hm, Bool.or_false]
      exact this
    · rw [hm] at h4
      have e := chk_good l (k + 1) x.to3 true x.to3 h4 (fun _ => rfl)
      simp only [firstM, hm, Bool.or_true, if_true, e]
      by_cases hc : mv = true ∧ x.from3 ≠ q
      · rw [if_pos (.inr ⟨trivial, hc.1, hc.2⟩)]
        simp [hc.1, hc.2]
      · rw [if_neg (by rintro (h | ⟨_, h⟩); cases h; exact hc h)]
        simp only [true_iff]
        cases mv
        · exact .inl rfl
        · exact .inr (.inr (congrArg some (Classical.byContradiction fun hn => hc ⟨rfl, hn⟩)))
theorem walkAt_any : ∀ (l : List It) (p q : V3), anyM l = true → walkAt p l = walkAt q l
  | [], _, _, h => by cases h
  | x :: l, p, q, h => by
    show walkAt _ l = walkAt _ l
    cases hm : motK x.kind
    · have h' : anyM l = true := by simpa [anyM, hm] using h
      exact walkAt_any l _ _ h'
    · rfl
/-- The law. -/
theorem join_law {a b : List It} {p q : V3} (ha : Good p a) (hb : Good q b) (hn : a.length + b.length ≤ 20000) :
    ((checkL (a ++ b)).2 = 0 ↔ (anyM a = false ∨ firstM b = none ∨ firstM b = some (walkAt (0, 0, 0) a))) := by
  unfold checkL
  rw [if_neg (by rw [List.length_append]; omega)]
  obtain ⟨q', e1, e2⟩ := chk_goodApp b a 0 p false (0, 0, 0) ha (by simp)
  rw [e2, chk_join b _ q _ q' hb, Bool.false_or]
  cases hm : anyM a
  · simp
  · rw [Bool.false_or] at e1
    rw [e1 hm, walkAt_any a p (0, 0, 0) hm]
end Go.Proofs.YtefdjdipbnnoaaaDoor
