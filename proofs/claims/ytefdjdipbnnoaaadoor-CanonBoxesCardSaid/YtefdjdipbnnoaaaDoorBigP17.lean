/-
  Plain: numbers in digits to the base 65536, and what the loops of cncref01 make of them.
-/
import Derived.Test.YtefdjdipbnnoaaaDoorWide17
namespace Go.Proofs.YtefdjdipbnnoaaaDoor
open Go
set_option linter.unusedVariables false

def lval : List Nat → Nat
  | [] => 0
  | d :: l => d + 65536 * lval l
def Digs (l : List Nat) : Prop := ∀ (i d : Nat), l[i]? = some d → d < 65536
def Norm (l : List Nat) : Prop := Digs l ∧ ∀ d, l[l.length - 1]? = some d → d ≠ 0
theorem Digs.tail {d : Nat} {l : List Nat} (h : Digs (d :: l)) : Digs l := fun i x hx => h (i + 1) x (by simpa using hx)
theorem lval_append : ∀ (a b : List Nat), lval (a ++ b) = lval a + 65536 ^ a.length * lval b
  | [], b => by simp [lval]
  | d :: a, b => by
    rw [List.cons_append]
    simp only [lval, List.length_cons, Nat.pow_succ]
    rw [lval_append a b]
    grind
theorem lval_lt : ∀ (l : List Nat), Digs l → lval l < 65536 ^ l.length
  | [], _ => by simp [lval]
  | d :: l, h => by
    have h1 := lval_lt l h.tail
    have h2 := h 0 d rfl
    simp only [lval, List.length_cons, Nat.pow_succ]
    omega
theorem lval_ge : ∀ (l : List Nat) (k : Nat), Norm l → l.length = k + 1 → 65536 ^ k ≤ lval l
  | [], k, _, h => by simp at h
  | [d], k, h, hk => by
    simp at hk
    subst hk
    have := h.2 d (by simp)
    simp only [lval]
    omega
  | d :: e :: l, k, h, hk => by
    obtain ⟨k, rfl⟩ : ∃ j, k = j + 1 := ⟨l.length, by simp at hk; omega⟩
    have h1 := lval_ge (e :: l) k ⟨h.1.tail, fun x hx => h.2 x (by simpa using hx)⟩ (by simp at hk ⊢; omega)
    rw [lval, Nat.pow_succ]
    omega
theorem lval_len_lt {a b : List Nat} (ha : Digs a) (hb : Norm b) (h : a.length < b.length) : lval a < lval b := by
  have h1 := lval_lt a ha
  have h2 := lval_ge b (b.length - 1) hb (by omega)
  have h3 : 65536 ^ a.length ≤ 65536 ^ (b.length - 1) := Nat.pow_le_pow_right (by decide) (by omega)
  omega
/-- The highest digit that differs decides. -/
theorem lval_at : ∀ (i : Nat) (a b : List Nat) (x y : Nat), Digs a → a.length = b.length → (∀ j, i < j → a[j]? = b[j]?) → a[i]? = some x → b[i]? = some y → x < y → lval a < lval b
  | i, [], b, x, y, _, _, _, hx, _, _ => by simp at hx
  | i, d :: a, [], x, y, _, hl, _, _, _, _ => by simp at hl
  | 0, d :: a, e :: b, x, y, _, hl, hj, hx, hy, hxy => by
    simp at hx hy hl
    have : a = b := List.ext_getElem? fun j => by simpa using hj (j + 1) (by omega)
    subst this
    simp only [lval]
    omega
  | i + 1, d :: a, e :: b, x, y, h, hl, hj, hx, hy, hxy => by
    have h1 := lval_at i a b x y h.tail (by simpa using hl) (fun j hj' => by simpa using hj (j + 1) (by omega)) (by simpa using hx) (by simpa using hy) hxy
    have h2 := h 0 d rfl
    simp only [lval]
    omega
theorem lval_set : ∀ (l : List Nat) (j x y : Nat), l[j]? = some y → lval (l.set j x) + 65536 ^ j * y = lval l + 65536 ^ j * x
  | [], j, x, y, h => by simp at h
  | d :: l, 0, x, y, h => by
    simp at h
    subst h
    simp only [List.set_cons_zero, lval, Nat.pow_zero]
    omega
  | d :: l, j + 1, x, y, h => by
    have h1 := lval_set l j x y (by simpa using h)
    simp only [List.set_cons_succ, lval, Nat.pow_succ]
    grind
theorem digs_set {l : List Nat} {j x : Nat} (h : Digs l) (hx : x < 65536) : Digs (l.set j x) := by
  intro i d hd
  rw [List.getElem?_set] at hd
  split at hd
  · split at hd
    · simp at hd; omega
    · simp at hd
  · exact h i d hd
theorem lval_take (l : List Nat) (k x : Nat) (h : l[k]? = some x) : lval (l.take (k + 1)) = lval (l.take k) + 65536 ^ k * x := by
  have hk : k < l.length := (List.getElem?_eq_some_iff.1 h).1
  have e : l.take (k + 1) = l.take k ++ [x] := by rw [List.take_add_one, h]; rfl
  rw [e, lval_append, List.length_take, Nat.min_eq_left (by omega)]
  simp [lval]
/-- One step of the inner loop. -/
theorem mul_step (o b : List Nat) (i k c V ai bk y : Nat) (hI : lval o + c * 65536 ^ (i + k) = V + ai * lval (b.take k) * 65536 ^ i) (hb : b[k]? = some bk) (hy : o[i + k]? = some y) :
    lval (o.set (i + k) ((y + ai * bk + c) % 65536)) + (y + ai * bk + c) / 65536 * 65536 ^ (i + (k + 1)) = V + ai * lval (b.take (k + 1)) * 65536 ^ i := by
  have h1 := lval_set o (i + k) ((y + ai * bk + c) % 65536) y hy
  have h2 := lval_take b k bk hb
  have h3 := Nat.div_add_mod (y + ai * bk + c) 65536
  generalize (y + ai * bk + c) % 65536 = r at *
  generalize (y + ai * bk + c) / 65536 = q at *
  rw [h2]
  have e1 : 65536 ^ (i + k) = 65536 ^ i * 65536 ^ k := Nat.pow_add ..
  have e2 : 65536 ^ (i + (k + 1)) = 65536 ^ i * 65536 ^ k * 65536 := by rw [show i + (k + 1) = i + k + 1 by omega, Nat.pow_succ, e1]
  rw [e1] at h1 hI
  rw [e2]
  generalize 65536 ^ i = A at *
  generalize 65536 ^ k = B at *
  generalize lval (o.set (i + k) r) = L1 at *
  generalize lval o = L0 at *
  generalize lval (b.take k) = M at *
  have h4 : A * B * (65536 * q + r) = A * B * (y + ai * bk + c) := by rw [h3]
  grind
theorem v_bd {y a b c : Nat} (hy : y < 65536) (ha : a < 65536) (hb : b < 65536) (hc : c < 65536) : a * b ≤ 4294836225 ∧ y + a * b + c < 4294967296 ∧ (y + a * b + c) / 65536 < 65536 := by
  have h : a * b ≤ 65535 * 65535 := Nat.mul_le_mul (by omega) (by omega)
  omega
/-- The row behind the last digit of b. -/
theorem mul_end (o b : List Nat) (i c V ai : Nat) (hI : lval o + c * 65536 ^ (i + b.length) = V + ai * lval (b.take b.length) * 65536 ^ i) (hy : o[i + b.length]? = some 0) :
    lval (o.set (i + b.length) c) = V + ai * lval b * 65536 ^ i := by
  have h1 := lval_set o (i + b.length) c 0 hy
  rw [List.take_length] at hI
  rw [← hI]
  rw [Nat.mul_zero, Nat.add_zero] at h1
  rw [h1, Nat.mul_comm c]
theorem cut_step {l : List Nat} (h : l[l.length - 1]? = some 0) : lval (l.take (l.length - 1)) = lval l := by
  have hk := (List.getElem?_eq_some_iff.1 h).1
  have := lval_take l (l.length - 1) 0 h
  rw [show l.length - 1 + 1 = l.length by omega, List.take_length] at this
  omega
theorem digs_take {l : List Nat} (h : Digs l) (k : Nat) : Digs (l.take k) := by
  intro i d hd
  rw [List.getElem?_take] at hd
  split at hd
  · exact h i d hd
  · simp at hd
theorem lval_zeros (n : Nat) : lval (List.replicate n 0) = 0 := by
  induction n with
  | zero => rfl
  | succ n ih => rw [List.replicate_succ, lval, ih]
end Go.Proofs.YtefdjdipbnnoaaaDoor
