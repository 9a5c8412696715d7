/- Walks: PrimpatchTree. -/
import Derived.Test.YtdbokolbheileaaGreatDoorTj
import Derived.Test.YtdbokolbheileaaGreatDoorTk
set_option linter.unusedSimpArgs false
set_option linter.unusedVariables false
namespace Go.Proofs.YtdbokolbheileaaGreatDoor
open Go Go.RowKit

set_option maxHeartbeats 8000000 in
set_option maxRecDepth 100000 in
theorem tree_walk (A : Option Addr) (n c : Nat) (l : List Pf) (s : ByteArray) (w : World) (h : Trs w A l) (hn : l.length = n) (hb : n ≤ 10000000000000) (hc : n ≤ c) (hz : ∀ f ∈ l, f.path.size ≤ 140737488355328 ∧ f.data.size ≤ 140737488355328) (hs : s.size ≤ 140737488355328) (hg : Glob w) :
    Calls Tryz.prog 3 #[.slice A n c, .string s] w (Ret (.bool true) w) := by
  have HG := Lib.hid (fun W (hW : Ext w W) => greattree_any A n c l W (h.ext hW) hn (by omega) hz)
  have HA := Lib.hid (fun W (hW : Ext w W) => awake12_any W (hg.ext hW))
  have HF := Lib.hid (fun W (hW : Ext w W) => find_any A n c s l W (h.ext hW) hn hb)
  have HR := Lib.hid (fun W (hW : Ext w W) => rtfind_any A n c s l W (h.ext hW) hn hb)
  have HC := Lib.hid (fun W (hW : Ext w W) => checktree_any A n c l W (h.ext hW) hn hb (hg.ext hW))
  have HD := Lib.hid (fun W (hW : Ext w W) => rchecktree_any A n c l W (h.ext hW) hn hb hc)
  clear h hn hz hg
  generalize Tr.checkTree l = r at *
  obtain ⟨f, b, hf⟩ : ∃ (f : Pf) (b : Bool), Tr.found l s = .tuple #[f.v, .bool b] := ⟨_, _, rfl⟩
  have HV := Lib.hid hf
  have hq := eqlIn_pf f f
  have hgu := guard_pf
  rw [Pf.same_iff.2 rfl] at hq
  clear hf
  cases hgr : Tr.great l
  · have HGr := Lib.hid hgr
    clear hgr
    by_cases h300 : 300 < s.size
    · clear hq hgu
      go_enter Tryz.func3, Tryz.ntmps3
      have hx := Ext.refl w
      go_wp2_with (first | (go_at_call 10; refine (HG.out _ EX).mono ?_; rintro e w1 ⟨rfl, hx0⟩; rw [HGr.out]; have hy := Ext.trans (a := w) EX hx0; clear hx; have hx := hy; clear hy hx0) | (go_at_call 11; refine (HA.out _ EX).mono ?_; rintro e w1 ⟨rfl, hx0⟩; skip; have hy := Ext.trans (a := w) EX hx0; clear hx; have hx := hy; clear hy hx0))
      (go_ret; refine Ret.mk ?_ ?_; (focus (rfl; done)); (focus (exact EX; done)))
    · have h300' : ¬ (300 : Int) < s.size := by omega
      go_enter Tryz.func3, Tryz.ntmps3
      have hx := Ext.refl w
      go_wp2_with (first
        | (go_at_call 10; refine (HG.out _ EX).mono ?_; rintro e wG ⟨rfl, hx0⟩; rw [HGr.out]; have hy := Ext.trans (a := w) EX hx0; clear hx; have hx := hy; clear hy hx0)
        | (go_at_call 12; refine (HF.out _ EX).mono ?_; rintro e wF ⟨rfl, hx0⟩; rw [HV.out]; have hy := Ext.trans (a := w) EX hx0; clear hx; have hx := hy; clear hy; obtain ⟨hccwF, hffwF⟩ := bcell hx0; have hzzwF := hx0.size_le; (try simp only [World.size_alloc] at hzzwF); clear hx0; skip)
        | (go_at_call 13; refine (HR.out _ EX).mono ?_; rintro e wR ⟨rfl, hx0⟩; rw [HV.out]; have hy := Ext.trans (a := w) EX hx0; clear hx; have hx := hy; clear hy; obtain ⟨hccwR, hffwR⟩ := bcell hx0; have hzzwR := hx0.size_le; (try simp only [World.size_alloc] at hzzwR); clear hx0; have k1 : wF.heap.size < wR.heap.size := by omega)
        | (go_at_call 14; refine (HC.out _ EX).mono ?_; rintro e wC ⟨rfl, hx0⟩; skip; have hy := Ext.trans (a := w) EX hx0; clear hx; have hx := hy; clear hy; obtain ⟨hccwC, hffwC⟩ := bcell hx0; have hzzwC := hx0.size_le; (try simp only [World.size_alloc] at hzzwC); clear hx0; (have k2 : wF.heap.size < wC.heap.size := by omega); have k3 : wR.heap.size < wC.heap.size := by omega)
        | (go_at_call 15; refine (HD.out _ EX).mono ?_; rintro e wD ⟨rfl, hx0⟩; skip; have hy := Ext.trans (a := w) EX hx0; clear hx; have hx := hy; clear hy; obtain ⟨hccwD, hffwD⟩ := bcell hx0; have hzzwD := hx0.size_le; (try simp only [World.size_alloc] at hzzwD); clear hx0; (have k4 : wF.heap.size < wD.heap.size := by omega); have k5 : wR.heap.size < wD.heap.size := by omega)
        | (go_at_call 11; refine (HA.out _ EX).mono ?_; rintro e wA ⟨rfl, hx0⟩; skip; have hy := Ext.trans (a := w) EX hx0; clear hx; have hx := hy; clear hy hx0))
      (go_ret; refine Ret.mk ?_ ?_; (focus (rfl; done)); (focus (exact EX; done)))
  · have HGr := Lib.hid hgr
    clear hgr hq hgu
    go_enter Tryz.func3, Tryz.ntmps3
    have hx := Ext.refl w
    go_wp2_with (first | (go_at_call 10; refine (HG.out _ EX).mono ?_; rintro e w1 ⟨rfl, hx0⟩; rw [HGr.out]; have hy := Ext.trans (a := w) EX hx0; clear hx; have hx := hy; clear hy hx0) | (go_at_call 11; refine (HA.out _ EX).mono ?_; rintro e w1 ⟨rfl, hx0⟩; skip; have hy := Ext.trans (a := w) EX hx0; clear hx; have hx := hy; clear hy hx0))
    (go_ret; refine Ret.mk ?_ ?_; (focus (rfl; done)); (focus (exact EX; done)))
end Go.Proofs.YtdbokolbheileaaGreatDoor
