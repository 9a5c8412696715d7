/- Walks: two valid patches exchanged. -/
import Derived.Test.YtnjcifppkijanaaGreatDoorV
import Derived.Test.YtnjcifppkijanaaGreatDoorHeld
set_option linter.unusedSimpArgs false
set_option linter.unusedVariables false
namespace Go.Proofs.YtnjcifppkijanaaGreatDoor
open Go.RowKit
attribute [local go_sem ↓] Go.wp_at_zero Go.wp_at_succ

theorem Blk.grown {w w' : World} {g b : Nat} {t : TypeId} {cs : Array Value} (h : Blk w g t cs) (hg : w.grownBy w' (some b)) (hne : g ≠ b) : Blk w' g t cs :=
  (hg.block g h.lt (fun e => hne (Option.some.inj e))).trans h
/-- The cells of a patch. -/
abbrev parr (p : Pv) : Array Value :=
  #[.int .i64 p.kind, .string p.path, .string p.to_, .int .i64 p.ty, .int .i64 p.at_, .slice p.A1 p.n1 p.c1, .slice p.A2 p.n2 p.c2, .int .i64 p.off, .string p.so, .string p.sn, .int .i64 p.om, .int .i64 p.nm]
end Go.Proofs.YtnjcifppkijanaaGreatDoor
