/-
  cnclaw07.few: whether a script is short. Any script.
-/
import Derived.Test.YtdbhkpkndfhcoaaDoorRPush07
namespace Go.Proofs.YtdbhkpkndfhcoaaDoor
open Go Go.RowKit
set_option linter.unusedVariables false

/-- An act. -/
structure ActD where
  what : Int
  n : Int
  v : Int
  near : Bool
  addr : Option Addr
  args : List (Int × Int)
  cap : Nat
def ActD.cells (d : ActD) : List Value := [.int .i64 d.what, .int .i64 d.n, .int .i64 d.v, .bool d.near, .slice d.addr d.args.length d.cap]
/-- The script lies in memory. -/
def ActsAt (W : World) (a : Option Addr) (L : List ActD) : Prop := ∀ i d, L[i]? = some d → ∃ b o, a = some ⟨b, o, none⟩ ∧ b < W.heap.size ∧ (∀ j v, d.cells[j]? = some v → W.cell? ⟨b, o + i * 5 + j, none⟩ = some v) ∧ ArgsAt W d.addr d.args ∧ d.args.length ≤ 9223372036854775807
theorem ActsAt.below {W W' : World} {a : Option Addr} {L : List ActD} (h : ActsAt W a L) (hb : Below W.heap.size W W') : ActsAt W' a L := fun i d hd => by
  obtain ⟨b, o, e, hl, hc, ha, hn⟩ := h i d hd
  exact ⟨b, o, e, by have := hb.size; omega, fun j v hv => (hb.cell (p := ⟨b, o + i * 5 + j, none⟩) hl).trans (hc j v hv), ha.below hb, hn⟩
open Classical in
noncomputable def fewB (L : List ActD) : Bool := if (∀ i d, i < 60 → L[i]? = some d → d.args.length ≤ 30) ∧ L.length ≤ 60 then true else false
theorem fewB_end {L : List ActD} {i : Nat} (h : ∀ k d, k < i → L[k]? = some d → d.args.length ≤ 30) (hi : L.length ≤ i ∨ 60 ≤ i) : fewB L = decide (L.length ≤ 60) := by
  unfold fewB
  have hall : ∀ i d, i < 60 → L[i]? = some d → d.args.length ≤ 30 := fun k d hk hd => h k d (by have := (List.getElem?_eq_some_iff.1 hd).1; omega) hd
  by_cases e : L.length ≤ 60
  · rw [if_pos ⟨hall, e⟩]; simp [e]
  · rw [if_neg (fun x => e x.2)]; simp [e]
theorem fewB_no {L : List ActD} {i : Nat} {d : ActD} (hd : L[i]? = some d) (hi : i < 60) (h : 30 < d.args.length) : fewB L = false := by
  unfold fewB
  exact if_neg (fun x => by have := x.1 i d hi hd; omega)
set_option maxRecDepth 100000 in
theorem few_any (a : Option Addr) (L : List ActD) (cp : Nat) (w : World) (hA : ActsAt w a L) (hl : L.length ≤ 9223372036854775807) :
    Calls Tryd.prog 21 #[.slice a L.length cp] w fun e w' => e = .returned (.bool (fewB L)) ∧ w = w' := by
  go_enter Tryd.func21, Tryd.ntmps21
  go_wp2_with fail
  go_loopw [3] (fun s3 wr => ∃ i : Nat, i ≤ L.length ∧ i ≤ 60 ∧ s3 = .int .i64 i ∧ (∀ k d, k < i → L[k]? = some d → d.args.length ≤ 30) ∧ w = wr)
    (fun s3 _ => 60 - (intOf s3).toNat)
  case atStart => exact ⟨0, by omega, by omega, rfl, fun k d h => by omega, rfl⟩
  case round =>
    obtain ⟨i, hi, hi60, rfl, hall, rfl⟩ := hrel
    by_cases h1 : i < L.length
    · by_cases h2 : i < 60
      · obtain ⟨d, hd⟩ : ∃ d, L[i]? = some d := ⟨_, List.getElem?_eq_getElem h1⟩
        obtain ⟨b, o, rfl, hbl, hc, _, hn⟩ := hA i d hd
        have c4 := hc 4 _ rfl
        have i1 : (0 : Int) ≤ (i : Int) := by omega
        have i2 : (i : Int) < (L.length : Int) := by omega
        have i3 : IntKind.i64.wrap ((i : Int) + 1) = (i : Int) + 1 := by rw [IntKind.wrap_i64]; omega
        have d1 : decide (i < L.length) = true := by simp; omega
        have d2 : decide (i < 60) = true := by simp; omega
        by_cases h3 : 30 < d.args.length
        · have d3 : decide (30 < d.args.length) = true := by simp; omega
          have E := Lib.hid (fewB_no hd h2 h3)
          clear hall hc
          go_wp2_with fail
          go_ret
          exact ⟨by rw [E.out]; rfl, rfl⟩
        · have d3 : decide (30 < d.args.length) = false := by simp; omega
          clear hc
          go_wp2_with fail
          go_roundw
          case rel =>
            refine ⟨i + 1, by omega, by omega, by go_num, fun k d' hk hd' => ?_, trivial⟩
            by_cases e : k = i
            · subst e
              rw [hd] at hd'
              cases hd'
              omega
            · exact hall k d' (by omega) hd'
          case measure => simp [intOf]; omega
      · have d1 : decide (i < L.length) = true := by simp; omega
        have d2 : decide (i < 60) = false := by simp; omega
        have E := Lib.hid (fewB_end hall (.inr (by omega)))
        clear hall
        go_wp2_with fail
        go_ret
        exact ⟨by rw [E.out]; simp; omega, rfl⟩
    · have d1 : decide (i < L.length) = false := by simp; omega
      have E := Lib.hid (fewB_end hall (.inl (by omega)))
      clear hall
      go_wp2_with fail
      go_ret
      exact ⟨by rw [E.out]; simp; omega, rfl⟩
end Go.Proofs.YtdbhkpkndfhcoaaDoor
