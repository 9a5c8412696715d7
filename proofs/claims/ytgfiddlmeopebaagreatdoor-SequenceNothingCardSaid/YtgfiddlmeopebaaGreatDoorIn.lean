/- Walks: a sequence followed by its inverse cancels completely. -/
import Derived.Test.YtgfiddlmeopebaaGreatDoorAy
import Derived.Test.YtgfiddlmeopebaaGreatDoorCn
import Derived.Test.YtgfiddlmeopebaaGreatDoorVi
set_option linter.unusedSimpArgs false
set_option linter.unusedVariables false
namespace Go.Proofs.YtgfiddlmeopebaaGreatDoor
open Go Go.RowKit
attribute [local go_sem ↓] Go.wp_at_zero Go.wp_at_succ

set_option maxHeartbeats 16000000 in
set_option maxRecDepth 100000 in
theorem nothing_walk (A : Option Addr) (n c : Nat) (l : List Qp) (w : World) (hg : Glob w) (h : Qs w (fun _ => True) A l) (hn : l.length = n) (hb : n ≤ 1152921504606846976) (hs : ∀ q ∈ l, q.old.length ≤ 1152921504606846976 ∧ q.new.length ≤ 1152921504606846976) :
    Calls Tryz.prog 7 #[.slice A n c] w (Ret (.bool true) w) := by
  have HL := Lib.hid h
  have HN := Lib.hid hn
  have HG := Lib.hid hg
  have HAW := Lib.hid (fun W (hW : Ext w W) => awake14_any W (hg.ext hW))
  have HGR := Lib.hid (fun W (hW : Ext w W) => lawgreat14_any A n c l W (h.ext hW) hn hb hs)
  clear h hn hs hg hb
  go_enter Tryz.func7, Tryz.ntmps7
  have hx := Ext.refl w
  go_wp2_with fail
  refine (HGR.out _ hx).mono ?_
  rintro e u1 ⟨v, rfl, hsm, hx0⟩
  have hs : Ext w u1 := Ext.trans (by repeat (first | with_reducible exact Ext.refl _ | with_reducible refine Ext.alloc ?_ _)) hx0
  replace HL := Lib.hid (HL.out.ext hs)
  have hx1 := hx.trans hs
  clear hx hs hx0
  have hx := hx1
  clear hx1
  dsimp only
  have HS := Lib.hid hsm
  clear hsm HGR
  cases v
  rotate_left
  · go_wp2_with fail
    refine (HAW.out _ (hx.trans (by repeat (first | with_reducible exact Ext.refl _ | with_reducible refine Ext.alloc ?_ _)))).mono ?_
    rintro e u2 ⟨rfl, hx0⟩
    have hs : Ext u1 u2 := Ext.trans (by repeat (first | with_reducible exact Ext.refl _ | with_reducible refine Ext.alloc ?_ _)) hx0
    replace HL := Lib.hid (HL.out.ext hs)
    have hx1 := hx.trans hs
    clear hx hs hx0
    have hx := hx1
    clear hx1
    dsimp only
    go_wp2_with fail
    (go_ret; refine Ret.mk ?_ ?_; (focus (rfl; done)); (focus ((repeat (first | with_reducible exact hx | with_reducible exact Ext.refl _ | with_reducible refine Ext.alloc ?_ _ | with_reducible refine Ext.drewN ?_ _ | with_reducible refine Ext.drew1 ?_ | ((with_reducible refine Ext.setCell ?_ ?_ _); rotate_left; (focus (first | (dsimp only; omega) | (simp; done) | (simp; omega)))))); done)))
  have S1 : Small l := HS.out rfl
  have F1 := Lib.hid S1.fits
  have n8 : n ≤ 8 := by have := S1.1; have := HN.out; omega
  clear HS S1
  go_wp2_with fail
  refine (seqinvert_any A n c l _ (HG.out.ext (hx.trans (by repeat (first | with_reducible exact Ext.refl _ | with_reducible refine Ext.alloc ?_ _)))) (HL.out.ext (by repeat (first | with_reducible exact Ext.refl _ | with_reducible refine Ext.alloc ?_ _))) HN.out (by omega) F1.out).mono ?_
  rintro e u2 ⟨hres, hx0⟩
  have hs : Ext u1 u2 := Ext.trans (by repeat (first | with_reducible exact Ext.refl _ | with_reducible refine Ext.alloc ?_ _)) hx0
  replace HL := Lib.hid (HL.out.ext hs)
  have hx1 := hx.trans hs
  clear hx hs hx0
  have hx := hx1
  clear hx1
  rcases hres with ⟨hbad, c2, hc2, rfl⟩ | ⟨hok, C, cc, rfl, HC⟩
  · clear hbad
    go_wp2_with fail
    refine (HAW.out _ (hx.trans (by repeat (first | with_reducible exact Ext.refl _ | with_reducible refine Ext.alloc ?_ _)))).mono ?_
    rintro e u3 ⟨rfl, hx0⟩
    have hs : Ext u2 u3 := Ext.trans (by repeat (first | with_reducible exact Ext.refl _ | with_reducible refine Ext.alloc ?_ _)) hx0
    replace HL := Lib.hid (HL.out.ext hs)
    have hx1 := hx.trans hs
    clear hx hs hx0
    have hx := hx1
    clear hx1
    dsimp only
    go_wp2_with fail
    (go_ret; refine Ret.mk ?_ ?_; (focus (rfl; done)); (focus ((repeat (first | with_reducible exact hx | with_reducible exact Ext.refl _ | with_reducible refine Ext.alloc ?_ _ | with_reducible refine Ext.drewN ?_ _ | with_reducible refine Ext.drew1 ?_ | ((with_reducible refine Ext.setCell ?_ ?_ _); rotate_left; (focus (first | (dsimp only; omega) | (simp; done) | (simp; omega)))))); done)))
  · have HNO : Hid (Sq.cancel (l ++ Sq.invert l) = []) := Lib.hid (Sq.nothing hok)
    have HIL : Hid ((Sq.invert l).length = n) := Lib.hid (by unfold Sq.invert; rw [List.length_reverse, List.length_map]; exact HN.out)
    have HFI : Hid (∀ q ∈ l ++ Sq.invert l, q.Fits) := Lib.hid fun q hq => (List.mem_append.1 hq).elim (F1.out q) (fun hq => by
      unfold Sq.invert at hq
      rw [List.mem_reverse, List.mem_map] at hq
      obtain ⟨y, hy, rfl⟩ := hq
      exact check_fits (inv_check (hok y hy)))
    clear hok
    have HLI := Lib.hid HL.out.in
    have HCI := Lib.hid HC.out.in
    go_wp2_with (first
    | (at_builtin; refine wpList_grows _ rfl _ _ 22 rfl Tryz.underlying22 (by kernel_rfl) u2.heap.size _ [] l rfl (Grows.empty (fun b => b < u2.heap.size) (Nat.le_refl _)) A n c rfl HN.out (HLI.out.ext ((Ext.refl u2).alloc _)) (fun b hb => ⟨by have := hb.2; simp; omega, hb.2, own_ne hb.2⟩) (by simp; omega) (by simp) ?_; intro v1 w1 hgr hgrow; have hx1 : Ext u2 w1 := Ext.grownBy ((Ext.refl u2).alloc _) hgrow (fun k e => Nat.le_of_eq (Option.some.inj (show some u2.heap.size = some k from e))); have HO := Lib.hid hgr.own; have hz := hx1.size_le; have HGW := Lib.hid hgr; have HX1 := Lib.hid hx1; clear hgr hgrow hx1)
    | (at_builtin; refine wpList_grows _ rfl _ _ 22 rfl Tryz.underlying22 (by kernel_rfl) u2.heap.size v1 ([] ++ l) (Sq.invert l) rfl HGW.out C n cc rfl HIL.out (HCI.out.ext HX1.out) (fun b hb => ⟨by have := hb.2; omega, hb.2, fun e => by have := (HO.out b e.symm).1; have := hb.2; omega⟩) (by have := HN.out; simp; omega) hz ?_; intro v2 w2 hgr2 hgrow2))
    have hs : Ext u2 w2 := Ext.grownBy HX1.out hgrow2 (fun k e => (HO.out k e).1)
    obtain ⟨D, dd, rfl, hqs, hle, _⟩ := hgr2.qs
    have hl2 : ([] ++ l ++ Sq.invert l).length = n + n := by have := HN.out; have := HIL.out; simp; omega
    rw [hl2]
    have HQD : Hid (Qs w2 (fun _ => True) D (l ++ Sq.invert l)) := Lib.hid (by have := hqs.mono (G := fun _ => True) (fun _ _ => trivial); rwa [List.nil_append] at this)
    have HLD : Hid ((l ++ Sq.invert l).length = n + n) := Lib.hid (by rw [List.nil_append] at hl2; exact hl2)
    have hx1 := hx.trans hs
    replace HL := Lib.hid (HL.out.ext hs)
    clear hx hs hgr2 hgrow2 hqs hle hl2 HO HGW HX1 hz HLI HCI HC
    have hx := hx1
    clear hx1
    have HCN := Lib.hid (cancel_any D (n + n) dd (l ++ Sq.invert l) w2 (HG.out.ext hx) HQD.out HLD.out (by omega) HFI.out)
    rw [HNO.out] at HCN
    refine HCN.out.mono ?_
    rintro e w3 ⟨E, n', c', rfl, hz, _, _, _, hx0⟩
    obtain rfl : 0 = n' := hz
    have hx1 := hx.trans hx0
    replace HL := Lib.hid (HL.out.ext hx0)
    clear hx hx0 HCN
    have hx := hx1
    clear hx1
    dsimp only
    go_wp2_with fail
    refine (HAW.out _ (hx.trans (by repeat (first | with_reducible exact Ext.refl _ | with_reducible refine Ext.alloc ?_ _)))).mono ?_
    rintro e u3 ⟨rfl, hx0⟩
    have hs : Ext w3 u3 := Ext.trans (by repeat (first | with_reducible exact Ext.refl _ | with_reducible refine Ext.alloc ?_ _)) hx0
    replace HL := Lib.hid (HL.out.ext hs)
    have hx1 := hx.trans hs
    clear hx hs hx0
    have hx := hx1
    clear hx1
    dsimp only
    go_wp2_with fail
    (go_ret; refine Ret.mk ?_ ?_; (focus (rfl; done)); (focus ((repeat (first | with_reducible exact hx | with_reducible exact Ext.refl _ | with_reducible refine Ext.alloc ?_ _ | with_reducible refine Ext.drewN ?_ _ | with_reducible refine Ext.drew1 ?_ | ((with_reducible refine Ext.setCell ?_ ?_ _); rotate_left; (focus (first | (dsimp only; omega) | (simp; done) | (simp; omega)))))); done)))
end Go.Proofs.YtgfiddlmeopebaaGreatDoor
