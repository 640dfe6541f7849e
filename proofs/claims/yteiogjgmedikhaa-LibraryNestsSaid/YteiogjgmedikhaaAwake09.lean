/-
  cnclaw09.awake; blocks that are written out.
-/
import Derived.Test.YteiogjgmedikhaaBuild09
namespace Go.Proofs.Yteiogjgmedikhaa
open Go Go.RowKit
set_option linter.unusedVariables false

def zE : Ex := .mk 0 0 []
def pl0 : Nat → Place := fun _ => ⟨none, 0, fun _ => ⟨none, 0⟩, ⟨none, 0⟩, ⟨none, 0⟩⟩
theorem leafAt (W : World) (op n : Int) : ExAt W (.mk op n []) none 0 := .mk (fun _ => (none, 0)) (.inl rfl) (by simp) (by omega) (fun i x h => by simp at h)
theorem plainAt (W : World) (kd lab : Int) (sk : Bool) (o1 n1 o2 n2 n : Int) (i : Nat) : BlkAt W ⟨kd, lab, sk, [], .mk o1 n1 [], .mk o2 n2 [], n⟩ (pl0 i) :=
  ⟨⟨fun i x h => by simp at h, fun i x h => by simp at h, by simp [pl0]⟩, leafAt W _ _, leafAt W _ _⟩
/-- Blocks that lie in a new row. -/
theorem BlksAt.lit {W : World} {bs : List BlkL} {g : Nat} {cs : Array Value} {pl : Nat → Place} (hb : Blk W g 37 cs) (hcs : cs.toList = flat (blksC bs pl) bs.length) (hl : bs.length ≤ 9223372036854775807) (h : ∀ (i : Nat) (b : BlkL), bs[i]? = some b → BlkAt W b (pl i)) :
    BlksAt W bs (some ⟨g, 0, none⟩) bs.length pl := by
  refine ⟨OwnTab.tab ⟨cs, hb, fun i hi => ⟨blksC_len hi, fun j hj => ?_⟩⟩, h, (fun e => by cases e), Nat.le_refl _, hl⟩
  have := flat_at (f := blksC bs pl) (n := bs.length) (C := 11) (fun i hi => blksC_len hi) hi hj
  rw [← hcs] at this
  simpa using this
theorem BlksAt.nil' (W : World) (a : Option Addr) (cap : Nat) (hc : cap ≤ 9223372036854775807) : BlksAt W [] a cap pl0 := ⟨fun i hi => by simp at hi, fun i b h => by simp at h, fun _ => rfl, by simp, hc⟩
theorem build_nil : buildB [] = .ok ⟨[(0, 0)], [], []⟩ := rfl
theorem build_end (n : Int) (hn : 1 ≤ n ∧ n ≤ 3) : buildB [⟨5, 0, false, [], zE, zE, n⟩] = .err 0 11 := by
  obtain rfl | rfl | rfl : n = 1 ∨ n = 2 ∨ n = 3 := by omega
  all_goals rfl
set_option maxRecDepth 100000 in
set_option maxHeartbeats 1000000 in
theorem awake_true (w : World) : Calls Try.prog 14 #[] w fun e w' => e = .returned (.bool true) ∧ Below w.heap.size w w' := by
  have K1 := Lib.hid (fun W => build_any [] none 0 pl0 W (BlksAt.nil' W none 0 (by omega)))
  have hlit := fun (W : World) => BlksAt.lit (bs := [⟨5, 0, false, [], zE, zE, 1⟩]) (pl := pl0) (Blk.new W 37 #[.int .i64 5, .int .i64 0, .bool false, .slice none 0 0, .int .i64 0, .int .i64 0, .slice none 0 0, .int .i64 0, .int .i64 0, .slice none 0 0, .int .i64 1]) rfl (by simp) (fun i b h => by
    cases i with
    | zero => simp at h; subst h; exact plainAt _ 5 0 false 0 0 0 0 1 0
    | succ i => simp at h)
  have K2 := Lib.hid (fun W => build_any _ _ _ pl0 _ (hlit W))
  clear hlit
  go_enter Try.func14, Try.ntmps14
  go_wp2_with fail
  refine (K1.out _).mono ?_
  intro e w1 hp
  unfold LibPost at hp
  rw [build_nil] at hp
  obtain ⟨ab, cb, pl, ap, cp, am, cm, rfl, hlib, b1⟩ := hp
  have B1 := Lib.hid b1
  clear hlib b1
  unfold libV
  go_wp2_with fail
  have hK : Keeps w.heap.size w w1.heap.size 42 #[.slice ab 0 cb, .slice ap 1 cp, .slice am 0 cm] ((w1.alloc (.cells #[.slice ab 0 cb, .slice ap 1 cp, .slice am 0 cm] 42)).alloc (.cells #[.int .i64 5, .int .i64 0, .bool false, .slice none 0 0, .int .i64 0, .int .i64 0, .slice none 0 0, .int .i64 0, .int .i64 0, .slice none 0 0, .int .i64 1] 37)) :=
    (Keeps.new B1.out B1.out.size 42 #[.slice ab 0 cb, .slice ap 1 cp, .slice am 0 cm]).alloc _
  have HK := Lib.hid hK
  clear hK
  have k2 := K2.out (w1.alloc (.cells #[.slice ab 0 cb, .slice ap 1 cp, .slice am 0 cm] 42))
  simp only [World.size_alloc, List.length_singleton] at k2
  refine k2.mono ?_
  intro e w2 hp
  unfold LibPost at hp
  rw [build_end 1 (by omega)] at hp
  obtain ⟨rfl, b2⟩ := hp
  have K3 := Lib.hid (HK.out.below b2)
  have c1 := (K3.out.alloc (.cells #[.slice none 0 0, .slice none 0 0, .slice none 0 0] 42)).blk.cell 1
  have c0 := K3.out.blk.cell 1
  clear b2
  unfold libV
  go_wp2_with fail
  go_ret
  exact ⟨rfl, K3.out.bel.alloc K3.out.size _⟩
end Go.Proofs.Yteiogjgmedikhaa
