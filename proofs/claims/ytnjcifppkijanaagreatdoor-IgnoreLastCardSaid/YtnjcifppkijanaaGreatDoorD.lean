/- Walks: hunks. Walks: the check of one hunk. Walks: two hunks exchanged. -/
import Derived.Test.YtnjcifppkijanaaGreatDoorBase
import Derived.Test.YtnjcifppkijanaaGreatDoorShelf
set_option linter.unusedSimpArgs false
set_option linter.unusedVariables false
namespace Go.Proofs.YtnjcifppkijanaaGreatDoor
open Go.RowKit

end Go.Proofs.YtnjcifppkijanaaGreatDoor
namespace Go.Proofs.YtnjcifppkijanaaGreatDoor
open Go.RowKit

set_option maxHeartbeats 2000000 in
set_option maxRecDepth 100000 in
theorem hcheck_any (h : Hv) (bX : Nat) (w : World) (hb : h.fair) (hbX : Blk w bX 93 #[.int .i64 h.at_, .slice h.A1 h.n1 h.c1, .slice h.A2 h.n2 h.c2]) :
    Calls Tryz.prog 213 #[.slice (some ⟨bX, 0, none⟩) 1 1] w (Ret (.int .i64 h.check) w) := by
  obtain ⟨hb1, hb2⟩ := hb
  obtain ⟨hcX, hfX, hlX⟩ := hbX.all
  have hneX : w.heap.size ≠ bX := by omega
  go_enter Tryz.func213, Tryz.ntmps213
  have hx := Ext.refl w
  go_wp2
  refine wp_loop_rounds 2 ?_
  rw [rounds_succ]
  go_wp2
  · (go_ret; refine Ret.mk ?_ ?_; (focus (simp [Hv.check]; omega; done)); (focus (exact EX; done)))
  · (go_ret; refine Ret.mk ?_ ?_; (focus (have h0 : (h.n1 : Int) + h.n2 = 0 := (by simpa using ‹((h.n1 : Int) + h.n2 == 0) = true›); have h1 : h.n1 + h.n2 = 0 := (by omega); simp [Hv.check, h1]; omega; done)); (focus (exact EX; done)))
  · go_quiet (fail)
    go_wp2
    rw [rounds_succ]
    go_wp2
    (go_ret; refine Ret.mk ?_ ?_; (focus (have h0 : ¬ (h.n1 : Int) + h.n2 = 0 := (by simpa using ‹((h.n1 : Int) + h.n2 == 0) = false›); have h1 : ¬ h.n1 + h.n2 = 0 := (by omega); have hck : h.check = 0 := (by simp only [Hv.check, h1, if_false]; rw [if_neg (by omega)]); rw [hck]; rfl; done)); (focus (exact EX; done)))
  · (go_ret; refine Ret.mk ?_ ?_; (focus (simp [Hv.check]; omega; done)); (focus (exact EX; done)))

end Go.Proofs.YtnjcifppkijanaaGreatDoor
namespace Go.Proofs.YtnjcifppkijanaaGreatDoor
open Go.RowKit

/-- hunkcommute.Commute. -/
def Hv.commute (a b : Hv) : Hv × Hv × Bool :=
  if (a.check == 0) = false ∨ (b.check == 0) = false then (Hv.zero, Hv.zero, false)
  else if a.at_ + a.n2 < b.at_ then (if (b.shift (-a.growth)).at_ ≤ 1099511627776 then (b.shift (-a.growth), a, true) else (Hv.zero, Hv.zero, false))
  else if b.at_ + b.n1 < a.at_ then (if (a.shift b.growth).at_ ≤ 1099511627776 then (b, a.shift b.growth, true) else (Hv.zero, Hv.zero, false))
  else (Hv.zero, Hv.zero, false)
end Go.Proofs.YtnjcifppkijanaaGreatDoor
