/-
  library's add.
-/
import Derived.Test.YteiogjgmedikhaaAddB09
import Derived.Test.YteiogjgmedikhaaAddC09
import Derived.Test.YteiogjgmedikhaaAddD09
import Derived.Test.YteiogjgmedikhaaAddE09
namespace Go.Proofs.Yteiogjgmedikhaa
open Go Go.RowKit
set_option linter.unusedVariables false

theorem add_any (bs : List BlkL) (a : Option Addr) (cap : Nat) (pl : Nat → Place) (base S i : Nat) (b : BlkL) (s : StL) (w : World) (hsrc : ∀ W, Below base w W → base ≤ W.heap.size → BlksAt W bs a cap pl) (hsz : base ≤ w.heap.size)
    (hb : bs[i]? = some b) (hvs : ∀ (j : Nat) (b : BlkL), bs[j]? = some b → validB b = true) (hok : StOK bs i s) (hlen : bs.length ≤ 2000) (hbld : BldSome base S s.progs s.mate s.op (numsOf s.progs) (labelsOf bs (lastFirst s.progs) i) w) :
    Calls Try.prog 39 #[.pointer (some ⟨S, 0, none⟩), .slice a bs.length cap, .int .i64 i] w (AddPost bs b i s base S w) := by
  have hop : s.op.length = 0 ∨ ∃ m t, s.op.length = m + 1 ∧ topOf s.op = t := by
    cases h : s.op.length with
    | zero => exact .inl rfl
    | succ m => exact .inr ⟨m, _, rfl, rfl⟩
  by_cases h6 : b.kind = 6
  · rcases hop with h0 | ⟨m, t, hm, ht⟩
    · cases hd : dupN b s with
      | true => exact add_prog_dup bs a cap pl base S i b s w hsrc hsz hb hvs hok hlen hbld h6 h0 hd
      | false =>
        by_cases hl : b.label ≤ 0
        · exact add_prog_none bs a cap pl base S i b s w hsrc hsz hb hvs hok hlen hbld h6 h0 hd hl
        · exact add_prog_new bs a cap pl base S i b s w hsrc hsz hb hvs hok hlen hbld h6 h0 hd (by omega)
    · exact add_prog_open bs a cap pl base S i b s w hsrc hsz hb hvs hok hlen hbld h6 m t hm ht
  · by_cases hd : 0 < b.label ∧ b.label ∈ labelsOf bs (lastFirst s.progs) i
    · exact add_dup bs a cap pl base S i b s w hsrc hsz hb hvs hok hlen hbld h6 hd
    · by_cases hl : b.label ≤ 0
      · by_cases h4 : b.kind = 4
        · exact add_while_none bs a cap pl base S i b s w hsrc hsz hb hvs hok hlen hbld h4 hl
        · by_cases h5 : b.kind = 5
          · rcases hop with h0 | ⟨m, t, hm, ht⟩
            · exact add_end0_none bs a cap pl base S i b s w hsrc hsz hb hvs hok hlen hbld h5 h0 hl
            · exact add_end1_none bs a cap pl base S i b s w hsrc hsz hb hvs hok hlen hbld h5 m t hm ht hl
          · exact add_plain_none bs a cap pl base S i b s w hsrc hsz hb hvs hok hlen hbld ⟨h4, h5, h6⟩ hl
      · have hn : 0 < b.label ∧ b.label ∉ labelsOf bs (lastFirst s.progs) i := ⟨by omega, fun h => hd ⟨by omega, h⟩⟩
        by_cases h4 : b.kind = 4
        · exact add_while_new bs a cap pl base S i b s w hsrc hsz hb hvs hok hlen hbld h4 hn
        · by_cases h5 : b.kind = 5
          · rcases hop with h0 | ⟨m, t, hm, ht⟩
            · exact add_end0_new bs a cap pl base S i b s w hsrc hsz hb hvs hok hlen hbld h5 h0 hn
            · exact add_end1_new bs a cap pl base S i b s w hsrc hsz hb hvs hok hlen hbld h5 m t hm ht hn
          · exact add_plain_new bs a cap pl base S i b s w hsrc hsz hb hvs hok hlen hbld ⟨h4, h5, h6⟩ hn
end Go.Proofs.Yteiogjgmedikhaa
