/-
  cnclaw09.awake; blocks that are written out.
  The library that Build makes of right blocks, and its functions, as the laws use them. No condition.
-/
import Derived.Test.YteiogjgmedikhaaBuild09
import Derived.Test.YteiogjgmedikhaaLooks09
import Derived.Test.YteiogjgmedikhaaSames09
import Derived.Test.YteiogjgmedikhaaRBuild09
import Derived.Test.YteiogjgmedikhaaFlows09
namespace Go.Proofs.Yteiogjgmedikhaa
open Go Go.RowKit
set_option linter.unusedVariables false

def zE : Ex := .mk 0 0 []
def pl0 : Nat → Place := fun _ => ⟨none, 0, fun _ => ⟨none, 0⟩, ⟨none, 0⟩, ⟨none, 0⟩⟩
theorem leafAt (W : World) (op n : Int) : ExAt W (.mk op n []) none 0 := .mk (fun _ => (none, 0)) (.inl rfl) (by simp) (by omega) (fun i x h => by simp at h)
theorem plainAt (W : World) (kd lab : Int) (sk : Bool) (o1 n1 o2 n2 n : Int) (i : Nat) : BlkAt W ⟨kd, lab, sk, [], .mk o1 n1 [], .mk o2 n2 [], n⟩ (pl0 i) :=
  ⟨⟨fun i x h => by simp at h, fun i x h => by simp at h, by simp [pl0]⟩, leafAt W _ _, leafAt W _ _⟩
/-- Blocks that lie in a new row. -/
theorem BlksAt.lit {W : World} {bs : List BlkL} {g : Nat} {cs : Array Value} {pl : Nat → Place} (hb : Blk W g 37 cs) (hcs : cs.toList = flat (blksC bs pl) bs.length) (hl : bs.length ≤ 9223372036854775807) (h : ∀ (i : Nat) (b : BlkL), bs[i]? = some b → BlkAt W b (pl i)) :
    BlksAt W bs (some ⟨g, 0, none⟩) bs.length pl := by
  refine ⟨OwnTab.tab ⟨cs, hb, fun i hi => ⟨blksC_len hi, fun j hj => ?_⟩⟩, h, (fun e => by cases e), Nat.le_refl _, hl⟩
  have := flat_at (f := blksC bs pl) (n := bs.length) (C := 11) (fun i hi => blksC_len hi) hi hj
  rw [← hcs] at this
  simpa using this
theorem BlksAt.nil' (W : World) (a : Option Addr) (cap : Nat) (hc : cap ≤ 9223372036854775807) : BlksAt W [] a cap pl0 := ⟨fun i hi => by simp at hi, fun i b h => by simp at h, fun _ => rfl, by simp, hc⟩
theorem build_nil : buildB [] = .ok ⟨[(0, 0)], [], []⟩ := rfl
theorem build_end (n : Int) (hn : 1 ≤ n ∧ n ≤ 3) : buildB [⟨5, 0, false, [], zE, zE, n⟩] = .err 0 11 := by
  obtain rfl | rfl | rfl : n = 1 ∨ n = 2 ∨ n = 3 := by omega
  all_goals rfl
set_option maxRecDepth 100000 in
set_option maxHeartbeats 1000000 in
theorem awake_true (w : World) : Calls Try.prog 14 #[] w fun e w' => e = .returned (.bool true) ∧ Below w.heap.size w w' := by
  have K1 := Lib.hid (fun W => build_any [] none 0 pl0 W (BlksAt.nil' W none 0 (by omega)))
  have hlit := fun (W : World) => BlksAt.lit (bs := [⟨5, 0, false, [], zE, zE, 1⟩]) (pl := pl0) (Blk.new W 37 #[.int .i64 5, .int .i64 0, .bool false, .slice none 0 0, .int .i64 0, .int .i64 0, .slice none 0 0, .int .i64 0, .int .i64 0, .slice none 0 0, .int .i64 1]) rfl (by simp) (fun i b h => by
    cases i with
    | zero => simp at h; subst h; exact plainAt _ 5 0 false 0 0 0 0 1 0
    | succ i => simp at h)
  have K2 := Lib.hid (fun W => build_any _ _ _ pl0 _ (hlit W))
  clear hlit
  go_enter Try.func14, Try.ntmps14
  go_wp2_with fail
  refine (K1.out _).mono ?_
  intro e w1 hp
  unfold LibPost at hp
  rw [build_nil] at hp
  obtain ⟨ab, cb, pl, ap, cp, am, cm, rfl, hlib, b1⟩ := hp
  have B1 := Lib.hid b1
  clear hlib b1
  unfold libV
  go_wp2_with fail
  have hK : Keeps w.heap.size w w1.heap.size 42 #[.slice ab 0 cb, .slice ap 1 cp, .slice am 0 cm] ((w1.alloc (.cells #[.slice ab 0 cb, .slice ap 1 cp, .slice am 0 cm] 42)).alloc (.cells #[.int .i64 5, .int .i64 0, .bool false, .slice none 0 0, .int .i64 0, .int .i64 0, .slice none 0 0, .int .i64 0, .int .i64 0, .slice none 0 0, .int .i64 1] 37)) :=
    (Keeps.new B1.out B1.out.size 42 #[.slice ab 0 cb, .slice ap 1 cp, .slice am 0 cm]).alloc _
  have HK := Lib.hid hK
  clear hK
  have k2 := K2.out (w1.alloc (.cells #[.slice ab 0 cb, .slice ap 1 cp, .slice am 0 cm] 42))
  simp only [World.size_alloc, List.length_singleton] at k2
  refine k2.mono ?_
  intro e w2 hp
  unfold LibPost at hp
  rw [build_end 1 (by omega)] at hp
  obtain ⟨rfl, b2⟩ := hp
  have K3 := Lib.hid (HK.out.below b2)
  have c1 := (K3.out.alloc (.cells #[.slice none 0 0, .slice none 0 0, .slice none 0 0] 42)).blk.cell 1
  have c0 := K3.out.blk.cell 1
  clear b2
  unfold libV
  go_wp2_with fail
  go_ret
  exact ⟨rfl, K3.out.bel.alloc K3.out.size _⟩
end Go.Proofs.Yteiogjgmedikhaa

namespace Go.Proofs.Yteiogjgmedikhaa
open Go Go.RowKit
set_option linter.unusedVariables false

/-- A library of n blocks and p programs in memory. -/
structure LibN (W : World) (bs : List BlkL) (P : List (Int × Nat)) (M : List Int) (n p : Nat) (ab : Option Addr) (cb : Nat) (pl : Nat → Place) (ap : Option Addr) (cp : Nat) (am : Option Addr) (cm : Nat) : Prop where
  lib : LibAt W bs P n M ab cb pl ap cp am cm
  nb : bs.length = n
  nm : M.length = n
  np : P.length = p
  few : n ≤ 2000 ∧ p ≤ 1000000
  pinv : PInv n P
  slim : ∀ (i : Nat) (b : BlkL), bs[i]? = some b → slimB b
  minv : ∀ (i : Nat) (x : Int), (i : Int) < x → x ≤ M.getD i (-1) → kindAt bs i = 4
theorem LibP.toAt {q : Nat → Prop} {W : World} {bs : List BlkL} {P : List (Int × Nat)} {n : Nat} {M : List Int} {ab : Option Addr} {cb : Nat} {pl : Nat → Place} {ap : Option Addr} {cp : Nat} {am : Option Addr} {cm : Nat} (h : LibP q W bs P n M ab cb pl ap cp am cm) :
    LibAt W bs P n M ab cb pl ap cp am cm := ⟨h.blks.at, h.progs.tab, h.mate.tab⟩
section
variable {W W' : World} {bs : List BlkL} {P : List (Int × Nat)} {M : List Int} {n p : Nat} {ab : Option Addr} {cb : Nat} {pl : Nat → Place} {ap : Option Addr} {cp : Nat} {am : Option Addr} {cm : Nat}
theorem LibN.under (h : LibN W bs P M n p ab cb pl ap cp am cm) (hb : Below W.heap.size W W') : LibN W' bs P M n p ab cb pl ap cp am cm := ⟨h.lib.under hb, h.nb, h.nm, h.np, h.few, h.pinv, h.slim, h.minv⟩
theorem LibN.of {q : Nat → Prop} {s : StL} (hb : buildB bs = .ok s) (h : LibP q W bs s.progs bs.length s.mate ab cb pl ap cp am cm) : LibN W bs s.progs s.mate bs.length s.progs.length ab cb pl ap cp am cm := by
  obtain ⟨h1, h2, h3, h4⟩ := buildB_ok hb
  have hm := mates_inv _ s (Nat.le_refl _) h3
  have hst := runB_ok h2 _ s (Nat.le_refl _) h3
  obtain ⟨r, e, hr, _⟩ := hst.progs
  exact ⟨h.toAt, rfl, hm.len, rfl, ⟨h1, by rw [e]; simp; omega⟩, progs_inv _ s (Nat.le_refl _) h3, fun i b hb => slim_of_valid (h2 i b hb), fun i x h1 h2 => hm.ahead h1 h2⟩
theorem LibN.find (h : LibN W bs P M n p ab cb pl ap cp am cm) (k : Int) : Calls Try.prog 28 #[.agg #[.slice ab n cb, .slice ap p cp, .slice am n cm], .int .i64 k] W fun x w' => x = .returned (.tuple #[.int .i64 ((findR P k).1 : Nat), .bool (findR P k).2]) ∧ Below W.heap.size W w' := by
  obtain ⟨h1, rfl, h3, rfl, h5, h6, h7, h8⟩ := h
  exact find_any P _ k _ _ ap cp W h1.progs h5.2
theorem LibN.rfind (h : LibN W bs P M n p ab cb pl ap cp am cm) (k : Int) : Calls Try.prog 31 #[.agg #[.slice ab n cb, .slice ap p cp, .slice am n cm], .int .i64 k] W fun x w' => x = .returned (.tuple #[.int .i64 ((findR P k).1 : Nat), .bool (findR P k).2]) ∧ Below W.heap.size W w' := by
  obtain ⟨h1, rfl, h3, rfl, h5, h6, h7, h8⟩ := h
  exact rfind_any P _ k _ _ ap cp W h1.progs h5.2
theorem LibN.of' (h : LibN W bs P M n p ab cb pl ap cp am cm) (x : Int) : Calls Try.prog 29 #[.agg #[.slice ab n cb, .slice ap p cp, .slice am n cm], .int .i64 x] W fun y w' => y = .returned (.int .i64 (ofR P n x)) ∧ Below W.heap.size W w' := by
  obtain ⟨h1, rfl, h3, rfl, h5, h6, h7, h8⟩ := h
  exact of_any P _ x ab cb _ ap cp W h1.progs h5.2 h6.end_le
theorem LibN.rof (h : LibN W bs P M n p ab cb pl ap cp am cm) (x : Int) : Calls Try.prog 33 #[.agg #[.slice ab n cb, .slice ap p cp, .slice am n cm], .int .i64 x] W fun y w' => y = .returned (.int .i64 (ofR P n x)) ∧ Below W.heap.size W w' := by
  obtain ⟨h1, rfl, h3, rfl, h5, h6, h7, h8⟩ := h
  exact rof_any P _ x _ _ ap cp W h1.progs h5.2
theorem LibN.label (h : LibN W bs P M n p ab cb pl ap cp am cm) (pg lb : Int) : Calls Try.prog 30 #[.agg #[.slice ab n cb, .slice ap p cp, .slice am n cm], .int .i64 pg, .int .i64 lb] W fun y w' => y = .returned (.tuple #[.int .i64 ((lookR bs P pg lb).1 : Nat), .bool (lookR bs P pg lb).2]) ∧ Below W.heap.size W w' := by
  obtain ⟨h1, rfl, h3, rfl, h5, h6, h7, h8⟩ := h
  exact label_any bs P pl pg lb ab cb _ ap cp W h1.blks.tab h1.progs h5.2 (by omega) h6.end_le
theorem LibN.rlabel (h : LibN W bs P M n p ab cb pl ap cp am cm) (pg lb : Int) : Calls Try.prog 32 #[.agg #[.slice ab n cb, .slice ap p cp, .slice am n cm], .int .i64 pg, .int .i64 lb] W fun y w' => y = .returned (.tuple #[.int .i64 ((lookR bs P pg lb).1 : Nat), .bool (lookR bs P pg lb).2]) ∧ Below W.heap.size W w' := by
  obtain ⟨h1, rfl, h3, rfl, h5, h6, h7, h8⟩ := h
  exact rlabel_any bs P pl pg lb ab cb _ ap cp W h1.blks.tab h1.progs h5.2 (by omega) h6.end_le
theorem LibN.inside (h : LibN W bs P M n p ab cb pl ap cp am cm) (x : Int) : Calls Try.prog 26 #[.agg #[.slice ab n cb, .slice ap p cp, .slice am n cm], .int .i64 x] W (InPost (inR M n x) W) := by
  obtain ⟨h1, h2, rfl, rfl, h5, h6, h7, h8⟩ := h
  exact inside_any M x ab cb _ am cm W h1.mate (by omega)
theorem LibN.rinside (h : LibN W bs P M n p ab cb pl ap cp am cm) (x : Int) : Calls Try.prog 27 #[.agg #[.slice ab n cb, .slice ap p cp, .slice am n cm], .int .i64 x] W (InPost (inR M n x) W) := by
  obtain ⟨h1, rfl, h3, rfl, h5, h6, h7, h8⟩ := h
  have := rinside_any bs pl M x ab cb (.slice ap P.length cp) am cm W h1.blks.tab h1.mate (by omega) h3.symm fun i => h8 i x
  rw [h3] at this
  exact this
variable {ab' : Option Addr} {cb' : Nat} {pl' : Nat → Place} {ap' : Option Addr} {cp' : Nat} {am' : Option Addr} {cm' : Nat}
theorem LibN.same (h : LibN W bs P M n p ab cb pl ap cp am cm) (h' : LibN W bs P M n p ab' cb' pl' ap' cp' am' cm') : Calls Try.prog 24 #[.agg #[.slice ab n cb, .slice ap p cp, .slice am n cm], .agg #[.slice ab' n cb', .slice ap' p cp', .slice am' n cm']] W fun e w' => e = .returned (.bool true) ∧ Below W.heap.size W w' := by
  obtain ⟨h1, h2, h3, rfl, h5, h6, h7, h8⟩ := h
  have := same_lib bs P n M ab ab' ap ap' am am' cb cb' cp cp' cm cm' pl pl' W h7 h1 h'.lib (by omega) h5.2 (by omega)
  rw [h2, h3] at this
  exact this
end
/-- What Same says of lists of numbers. -/
theorem same_nums {W : World} {L : List Int} {a a' : Option Addr} {cap cap' : Nat} {q q' : Nat → Prop} (h : RowAt q W 3 1 L.length (intC L) a) (h' : RowAt q' W 3 1 L.length (intC L) a') (hl : L.length ≤ 1000000) :
    Calls Try.prog 25 #[.slice a L.length cap, .slice a' L.length cap'] W fun e w' => e = .returned (.bool true) ∧ Below W.heap.size W w' := same_ints L a a' cap cap' W h.tab h'.tab hl
theorem inR_len (M : List Int) (n : Nat) (x : Int) : (inR M n x).length ≤ n := by
  unfold inR
  split
  · simp
  · exact insR_len M x n
/-- Two libraries in two variables. -/
structure LawAt (w : World) (r s : Nat) (C C' : Array Value) (bs : List BlkL) (P : List (Int × Nat)) (M : List Int) (n p : Nat) (ab : Option Addr) (cb : Nat) (pl : Nat → Place) (ap : Option Addr) (cp : Nat) (am : Option Addr) (cm : Nat)
    (ab' : Option Addr) (cb' : Nat) (pl' : Nat → Place) (ap' : Option Addr) (cp' : Nat) (am' : Option Addr) (cm' : Nat) (W : World) : Prop where
  bel : Below w.heap.size w W
  one : Blk W r 42 C
  two : Blk W s 42 C'
  l1 : LibN W bs P M n p ab cb pl ap cp am cm
  l2 : LibN W bs P M n p ab' cb' pl' ap' cp' am' cm'
theorem LawAt.under {w : World} {r s : Nat} {C C' : Array Value} {bs : List BlkL} {P : List (Int × Nat)} {M : List Int} {n p : Nat} {ab : Option Addr} {cb : Nat} {pl : Nat → Place} {ap : Option Addr} {cp : Nat} {am : Option Addr} {cm : Nat}
    {ab' : Option Addr} {cb' : Nat} {pl' : Nat → Place} {ap' : Option Addr} {cp' : Nat} {am' : Option Addr} {cm' : Nat} {W W' : World} (h : LawAt w r s C C' bs P M n p ab cb pl ap cp am cm ab' cb' pl' ap' cp' am' cm' W) (hb : Below W.heap.size W W') :
    LawAt w r s C C' bs P M n p ab cb pl ap cp am cm ab' cb' pl' ap' cp' am' cm' W' :=
  ⟨h.bel.trans (hb.mono h.bel.size), h.one.below hb h.one.lt, h.two.below hb h.two.lt, h.l1.under hb, h.l2.under hb⟩
theorem Took.below {B g c k : Nat} {ac : Option Addr} {T : Tp} {w0 w wx : World} (h : Took B g ac c T w k wx) (hb : Below w0.heap.size w0 w) (hg : w0.heap.size ≤ g) : Below w0.heap.size w0 wx :=
  hb.trans (below_of_grown h.grown hb.size fun k e => by injection e with e; omega)
theorem belowMore {w W W' : World} (h : Below w.heap.size w W) (hb : Below W.heap.size W W') : Below w.heap.size w W' := h.trans (hb.mono h.size)
/-- What build makes of Flowing's blocks. -/
theorem flow_lib (T : Tp) : ∃ s, buildB (flowF T) = .ok s := by
  obtain ⟨s, _, _, _, h⟩ := flow_build T
  exact ⟨s, h⟩
end Go.Proofs.Yteiogjgmedikhaa
