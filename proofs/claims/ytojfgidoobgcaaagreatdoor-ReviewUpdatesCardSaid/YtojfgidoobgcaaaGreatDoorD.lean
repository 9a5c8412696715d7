/- Walks: hunks. Walks: the check of one hunk. Walks: two hunks exchanged. -/
import Derived.Test.YtojfgidoobgcaaaGreatDoorBase
import Derived.Test.YtojfgidoobgcaaaGreatDoorShelf
set_option linter.unusedSimpArgs false
set_option linter.unusedVariables false
namespace Go.Proofs.YtojfgidoobgcaaaGreatDoor
open Go.RowKit

end Go.Proofs.YtojfgidoobgcaaaGreatDoor
namespace Go.Proofs.YtojfgidoobgcaaaGreatDoor
open Go.RowKit

set_option maxHeartbeats 2000000 in
set_option maxRecDepth 100000 in
theorem hcheck_any (h : Hv) (bX : Nat) (w : World) (hb : h.fair) (hbX : Blk w bX 108 #[.int .i64 h.at_, .slice h.A1 h.n1 h.c1, .slice h.A2 h.n2 h.c2]) :
    Calls Tryz.prog 169 #[.slice (some ⟨bX, 0, none⟩) 1 1] w (Ret (.int .i64 h.check) w) := by
  obtain ⟨hb1, hb2⟩ := hb
  obtain ⟨hcX, hfX, hlX⟩ := hbX.all
  have hneX : w.heap.size ≠ bX := by omega
  go_enter Tryz.func169, Tryz.ntmps169
  have hx := Ext.refl w
  go_wp2
  refine wp_loop_rounds 2 ?_
  rw [rounds_succ]
  go_wp2
  · (go_ret; refine Ret.mk ?_ ?_; (focus (simp [Hv.check]; omega; done)); (focus (exact EX; done)))
  · (go_ret; refine Ret.mk ?_ ?_; (focus (have h0 : (h.n1 : Int) + h.n2 = 0 := (by simpa using ‹((h.n1 : Int) + h.n2 == 0) = true›); have h1 : h.n1 + h.n2 = 0 := (by omega); simp [Hv.check, h1]; omega; done)); (focus (exact EX; done)))
  · go_quiet (fail)
    go_wp2
    rw [rounds_succ]
    go_wp2
    (go_ret; refine Ret.mk ?_ ?_; (focus (have h0 : ¬ (h.n1 : Int) + h.n2 = 0 := (by simpa using ‹((h.n1 : Int) + h.n2 == 0) = false›); have h1 : ¬ h.n1 + h.n2 = 0 := (by omega); have hck : h.check = 0 := (by simp only [Hv.check, h1, if_false]; rw [if_neg (by omega)]); rw [hck]; rfl; done)); (focus (exact EX; done)))
  · (go_ret; refine Ret.mk ?_ ?_; (focus (simp [Hv.check]; omega; done)); (focus (exact EX; done)))

end Go.Proofs.YtojfgidoobgcaaaGreatDoor
namespace Go.Proofs.YtojfgidoobgcaaaGreatDoor
open Go.RowKit

end Go.Proofs.YtojfgidoobgcaaaGreatDoor
