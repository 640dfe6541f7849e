/-
  cnclaw09.built and random.
-/
import Derived.Test.YteiogjgmedikhaaLawP09
namespace Go.Proofs.Yteiogjgmedikhaa
open Go Go.RowKit
set_option linter.unusedVariables false

/-- What Build makes of blocks: the library's blocks, programs, mates, lengths; the two other results. -/
structure ResN where
  bs : List BlkL
  P : List (Int × Nat)
  M : List Int
  n : Nat
  p : Nat
  i : Nat
  c : Int
def resOf (bs : List BlkL) : ResN := match buildB bs with
  | .err a c => ⟨[], [], [], 0, 0, a, c⟩
  | .ok s => ⟨bs, s.progs, s.mate, bs.length, s.progs.length, bs.length, 0⟩
/-- What Build returns. -/
def ResPost (R : ResN) (w : World) (e : Ending) (w' : World) : Prop := ∃ ab cb pl ap cp am cm, e = .returned (.tuple #[.agg #[.slice ab R.n cb, .slice ap R.p cp, .slice am R.n cm], .int .i64 (R.i : Nat), .int .i64 R.c]) ∧ LibN w' R.bs R.P R.M R.n R.p ab cb pl ap cp am cm ∧ Below w.heap.size w w'
theorem LibN.empty (W : World) : LibN W [] [] [] 0 0 none 0 pl0 none 0 none 0 :=
  ⟨⟨BlksAt.nil' W none 0 (by decide), fun i hi => by simp at hi, fun i hi => by simp at hi⟩, rfl, rfl, rfl, by omega, ⟨by simp, by simp⟩, fun i b h => by simp at h, fun i x h1 h2 => by simp at h2; omega⟩
theorem res_of {bs : List BlkL} {w w' : World} {e : Ending} (h : LibPost bs w e w') : ResPost (resOf bs) w e w' := by
  unfold LibPost at h
  unfold resOf
  cases hb : buildB bs with
  | err a c =>
    rw [hb] at h
    obtain ⟨rfl, h⟩ := h
    exact ⟨none, 0, pl0, none, 0, none, 0, rfl, LibN.empty w', h⟩
  | ok s =>
    rw [hb] at h
    obtain ⟨ab, cb, pl, ap, cp, am, cm, rfl, hl, h⟩ := h
    have hm := (mates_inv _ s (Nat.le_refl _) (buildB_ok hb).2.2.1).len
    refine ⟨ab, cb, pl, ap, cp, am, cm, ?_, LibN.of hb hl, h⟩
    unfold libV
    rw [hm]
set_option maxRecDepth 100000 in
set_option maxHeartbeats 1000000 in
theorem built_any (bs : List BlkL) (a : Option Addr) (cap : Nat) (pl : Nat → Place) (w : World) (h : BlksAt w bs a cap pl) :
    Calls Try.prog 15 #[.slice a bs.length cap] w fun e w' => e = .returned (.bool true) ∧ Below w.heap.size w w' := by
  have H := Lib.hid h
  have K1 := Lib.hid ((build_any bs a cap pl w h).mono fun e w' hp => res_of hp)
  have K2 := Lib.hid (fun W (h : BlksAt W bs a cap pl) => (rbuild_any bs a cap pl W h).mono fun e w' hp => res_of hp)
  clear h
  generalize resOf bs = R at *
  obtain ⟨bs', P, M, n, p, i, c⟩ := R
  go_enter Try.func15, Try.ntmps15
  go_wp2_with fail
  refine K1.out.mono ?_
  rintro e w1 ⟨ab, cb, pl1, ap, cp, am, cm, rfl, hl, b1⟩
  have L1 := Lib.hid hl
  have B1 := Lib.hid b1
  dsimp only at *
  clear hl b1 K1
  go_wp2_with fail
  refine calls_told (fun W => Below w.heap.size w W ∧ Blk W w1.heap.size 42 #[.slice ab n cb, .slice ap p cp, .slice am n cm] ∧ LibN W bs' P M n p ab cb pl1 ap cp am cm ∧ BlksAt W bs a cap pl) (by
    have hb : Below w1.heap.size w1 (w1.alloc (.cells #[.slice ab n cb, .slice ap p cp, .slice am n cm] 42)) := (Below.refl _ _).alloc (Nat.le_refl _) _
    exact ⟨belowMore B1.out hb, Blk.new _ _ _, L1.out.under hb, (H.out.under B1.out).under hb⟩) ?_
  rintro w2 ⟨b2, r2, l2, h2⟩
  have B2 := Lib.hid b2
  have R2 := Lib.hid r2
  have L2 := Lib.hid l2
  refine (K2.out w2 h2).mono ?_
  rintro e w3 ⟨ab', cb', pl2, ap', cp', am', cm', rfl, hl, b3⟩
  dsimp only at *
  have L3 := Lib.hid hl
  have B3 := Lib.hid b3
  clear b2 r2 l2 h2 hl b3 B1 L1 K2
  have rl := R2.out.below B3.out R2.out.lt
  have rlt := rl.lt
  have c0 := rl.cell 0
  have c1 := rl.cell 1
  have c2 := rl.cell 2
  have KS := Lib.hid ((L2.out.under B3.out).under ((Below.refl w3.heap.size w3).alloc (Nat.le_refl _) (.cells #[.slice ab' n cb', .slice ap' p cp', .slice am' n cm'] 42)) |>.same (L3.out.under ((Below.refl w3.heap.size w3).alloc (Nat.le_refl _) (.cells #[.slice ab' n cb', .slice ap' p cp', .slice am' n cm'] 42))))
  clear rl
  go_wp2_with fail
  clear c0 c1 c2
  refine KS.out.mono ?_
  rintro e w4 ⟨rfl, b4⟩
  have B4 := Lib.hid b4
  clear b4 KS
  go_wp2_with fail
  go_ret
  exact ⟨rfl, belowMore ((belowMore B2.out B3.out).alloc (belowMore B2.out B3.out).size _) B4.out⟩

/-! ### random -/
def randF (T : Tp) : Nat → Nat → List BlkL
  | 0, _ => []
  | n + 1, k => (blockF T k).1 :: randF T n (blockF T k).2
def rposF (T : Tp) : Nat → Nat → Nat
  | 0, k => k
  | n + 1, k => rposF T n (blockF T k).2
theorem rposF_succ (T : Tp) : ∀ (i k : Nat), rposF T (i + 1) k = (blockF T (rposF T i k)).2
  | 0, k => rfl
  | i + 1, k => rposF_succ T i _
theorem randF_succ (T : Tp) : ∀ (i k : Nat), randF T (i + 1) k = randF T i k ++ [(blockF T (rposF T i k)).1]
  | 0, k => rfl
  | i + 1, k => by
    show (blockF T k).1 :: randF T (i + 1) _ = _
    rw [randF_succ T i]
    rfl
theorem randF_len (T : Tp) : ∀ (i k : Nat), (randF T i k).length = i
  | 0, k => rfl
  | i + 1, k => by show (randF T i _).length + 1 = _; rw [randF_len T i]
def randomF (T : Tp) : List BlkL := randF T (nextF T 0 14).1.toNat (nextF T 0 14).2
def RandPost (B g : Nat) (ac : Option Addr) (c : Nat) (T : Tp) (w : World) (e : Ending) (w' : World) : Prop :=
  ∃ a cap pl, e = .returned (.slice a (randomF T).length cap) ∧ BlksP (fun q => w.heap.size ≤ q) w' (randomF T) a cap pl ∧ ∃ k', Took B g ac c T w k' w'
theorem random_len (T : Tp) : (randomF T).length ≤ 13 := by
  unfold randomF
  rw [randF_len]
  have := nextF_hi T 0 (m := 14) (by decide)
  have := nextF_lo T 0 (m := 14) (by decide)
  omega
set_option maxRecDepth 100000 in
set_option maxHeartbeats 1000000 in
theorem random_any (w : World) (B g : Nat) (ac : Option Addr) (c : Nat) (T : Tp) (hs : Src w B g ac c T 0) : Calls Try.prog 16 #[.pointer (some ⟨g, 0, none⟩)] w (RandPost B g ac c T w) := by
  have gl := hs.lt
  have hf0 := FlowAt.start hs (fun _ => plN)
  have KN := Lib.hid (next_any w B g ac c T 0 14 hs (by decide) (by decide))
  have n1 := nextF_lo T 0 (m := 14) (by decide)
  have n2 := nextF_hi T 0 (m := 14) (by decide)
  have HR := Lib.hid (randomF.eq_1 T)
  generalize nextF T 0 14 = s at *
  obtain ⟨nv, k1⟩ := s
  dsimp only at *
  obtain ⟨m, rfl⟩ : ∃ m : Nat, nv = m := ⟨nv.toNat, by omega⟩
  have HRF := Lib.hid (HR.out.trans (by rw [Int.toNat_natCast]))
  have H0 := Lib.hid hf0
  clear hs hf0 HR
  go_enter Try.func16, Try.ntmps16
  go_wp2_with fail
  refine KN.out.mono ?_
  rintro e w1 ⟨rfl, t1⟩
  have H1 := Lib.hid (H0.out.on gl t1)
  clear t1 KN H0
  go_wp2_with fail
  go_loopw [3, 4] (fun s3 s4 W => ∃ i n : Nat, i + n = m ∧ s4 = .int .i64 n ∧ ∃ vl pl, vl = s3 ∧ FlowAt B g ac c T w (randF T i k1) 0 (rposF T i k1) vl (.slice none 0 0) pl W) (fun _ sv _ => (intOf sv).toNat)
  case atStart => exact ⟨0, m, by omega, rfl, _, _, rfl, H1.out⟩
  case round =>
    obtain ⟨i, n, hin, rfl, vl, pl, rfl, hat⟩ := hrel
    rename World => W0
    have HA := Lib.hid hat
    clear hat H1
    by_cases hn : 0 < n
    · have d1 : decide (0 < n) = true := decide_eq_true hn
      have d1' : decide (0 < (n : Int)) = true := decide_eq_true (by omega)
      have KB := Lib.hid (block_any W0 B g ac c T _ HA.out.took.src)
      have HP := Lib.hid (rposF_succ T i k1)
      have HS := Lib.hid (randF_succ T i k1)
      have hlen := randF_len T i k1
      generalize rposF T i k1 = ki at *
      generalize blockF T ki = s at *
      obtain ⟨b, k2⟩ := s
      dsimp only at *
      generalize randF T i k1 = l at *
      have HL := Lib.hid hlen
      clear hlen
      go_wp2_with fail
      refine KB.out.mono ?_
      rintro e w2 ⟨p2, rfl, hbk, t2⟩
      have hz := HA.out.took.size
      have HA2 := Lib.hid ((HA.out.on gl t2).grown gl (grown_alloc (grown_refl _ _) (.cells (blkC b p2).toArray 37)))
      have HB2 := Lib.hid (((hbk.imp (q := fun q => w.heap.size ≤ q ∧ vl.ownBlock ≠ some q ∧ Value.ownBlock (.slice none 0 0) ≠ some q) fun q hq hl => ⟨by omega, fun e => by have := HA.out.own.lt q e; omega, by simp [Value.ownBlock]⟩)).keep (W' := w2.alloc (.cells (blkC b p2).toArray 37)) fun q _ hl => Below.heap_alloc w2 _ q hl)
      have gz := t2.size
      clear hbk t2 KB
      obtain ⟨aw, cw, kk, kl, kx⟩ := p2
      dsimp only [blkC]
      go_wp2_with (at_builtin; refine wpList_push rfl (.tmp 11) (.tmp 14) 22 rfl w.heap.size 37 (Value.agg #[.int .i64 0, .int .i64 0, .bool false, .slice none 0 0, .int .i64 0, .int .i64 0, .slice none 0 0, .int .i64 0, .int .i64 0, .slice none 0 0, .int .i64 0]) 11 136 Try.underlying22 infoBlock (by kernel_rfl) (by decide) (by decide) vl l.length (blksC l pl) rfl HA2.out.own w2.heap.size (blkC b ⟨aw, cw, kk, kl, kx⟩) rfl (Blk.new w2 37 _) rfl blkC_one ?c0 ?c1 ?c2)
      case c0 => have := HL.out; omega
      case c1 => omega
      case c2 =>
        intro gg cc w9 hp
        have H9 := Lib.hid (HA2.out.pushB gl HB2.out hp)
        clear hp
        go_wp2_with fail
        go_roundw
        case rel => exact ⟨i + 1, n - 1, by omega, by go_num, _, _, rfl, by rw [HS.out, HP.out]; exact H9.out⟩
        case measure => simp [intOf]; omega
    · obtain rfl : n = 0 := by omega
      obtain rfl : i = m := by omega
      obtain ⟨a, cap, rfl, hbs⟩ := HA.out.done
      have HBS := Lib.hid hbs
      clear hbs
      go_wp2_with fail
      go_ret
      unfold RandPost
      rw [HRF.out]
      exact ⟨a, cap, pl, rfl, HBS.out, _, HA.out.took⟩
end Go.Proofs.Yteiogjgmedikhaa
