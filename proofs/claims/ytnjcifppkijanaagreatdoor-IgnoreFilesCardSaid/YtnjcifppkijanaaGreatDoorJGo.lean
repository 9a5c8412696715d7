/- Walks: IgnoreFiles. -/
import Derived.Test.YtnjcifppkijanaaGreatDoorQB
import Derived.Test.YtnjcifppkijanaaGreatDoorPL
set_option linter.unusedSimpArgs false
set_option linter.unusedVariables false
namespace Go.Proofs.YtnjcifppkijanaaGreatDoor
open Go Go.RowKit Go.Shelf
set_option maxHeartbeats 8000000 in
set_option maxRecDepth 100000 in
theorem files_walk (A : Option Addr) (n c : Nat) (l : List Ig.Fi) (w : World) (hg : Glob w) (h : Fis w All A l) (hn : l.length = n) (hb : n ≤ 4611686018427387904) (hrl : ∀ f ∈ l, f.rules.length ≤ 4611686018427387904) :
    Calls Tryz.prog 4 #[.slice A n c] w (Ret (.bool true) w) := by
  have HG := Lib.hid hg
  have HL := Lib.hid h
  have HN := Lib.hid hn
  have HGR := Lib.hid (great39_any A n c l w h hn hb hrl)
  obtain ⟨gr, hgr⟩ : ∃ gr, gr = Ig.great l := ⟨_, rfl⟩
  rw [← hgr] at HGR
  have HE := Lib.hid hgr
  have HAW : Hid (∀ W, Ext w W → Calls Tryz.prog 11 #[] W (Ret (.bool true) W)) := Lib.hid fun W hW => awake39_any W (HG.out.ext hW)
  have hx := Ext.refl w
  clear h hn hg hgr hrl
  go_enter Tryz.func4, Tryz.ntmps4
  go_wp2_with fail
  refine HGR.out.mono ?_
  rintro e w1 ⟨rfl, hx0⟩
  have HX := Lib.hid (hx.trans hx0)
  clear hx hx0 HGR
  cases gr with
  | true =>
    go_wp2_with fail
    refine (HAW.out _ HX.out).mono ?_
    rintro e w2 ⟨rfl, hx0⟩
    have HX2 := Lib.hid (HX.out.trans hx0)
    clear hx0
    go_wp2_with fail
    go_ret
    exact ⟨rfl, HX2.out⟩
  | false =>
    have hn1 : n ≤ 5 := by rw [← HN.out]; exact (Ig.great_false HE.out.symm).1
    have HF := Lib.hid (Ig.great_false HE.out.symm).2
    go_wp2_with fail
    go_loopw [4, 5, 6, 7, 8, 14] (fun _ _ _ _ _ u wr => ∃ k : Nat, u = .int .i64 k ∧ k ≤ n ∧ Hid (Ext w wr)) (fun _ _ _ _ _ u _ => n - (intOf u).toNat)
    case atStart => exact ⟨0, rfl, Nat.zero_le _, HX⟩
    case round =>
      clear HX
      rename World => wo
      obtain ⟨k, rfl, hk, HX⟩ := hrel
      by_cases hlt : k < n
      · have hkl : k < l.length := by rw [HN.out]; exact hlt
        have e0 : l[k]? = some l[k] := List.getElem?_eq_getElem _
        have hfr' := HF.out.rules _ (List.getElem_mem hkl)
        obtain ⟨b, oo, cs, rfl, hbl, -, -, hr, A', n', m', rfl, hn', hnm', hru⟩ := HL.out.get e0
        have c0 := (HX.out.cell (p := ⟨b, oo + k * 2, none⟩) hbl).trans (hr 0 _ rfl)
        have c1 := (HX.out.cell (p := ⟨b, oo + k * 2 + 1, none⟩) hbl).trans (hr 1 _ rfl)
        have HRU := Lib.hid hru
        clear hr e0 hru
        generalize l[k] = f at c0 c1 HRU hn' hfr'
        clear hkl
        obtain ⟨dir, rules⟩ := f
        dsimp only at c0 c1 HRU hn' hfr'
        have HX1 := Lib.hid (HX.out.alloc (.cells #[.string dir, .slice A' n' m'] 32))
        have HB1 := Lib.hid (Blk.new' (w := wo) (g := wo.heap.size) (cs := #[.string dir, .slice A' n' m']) (t := 32) rfl)
        have HP1 : Hid (∀ W, Ext w W → Calls Tryz.prog 16 #[.slice A' n' m'] W (Ret (.tuple #[.string (Ig.bs (Ig.print rules).1), .int .i64 (Ig.print rules).2]) W)) := Lib.hid fun W hW => print_any A' n' m' rules W (Sls.ext RuR.steadfast HRU.out hW) hn' (by omega) (HG.out.ext hW)
        have HP2 : Hid (∀ W, Ext w W → Calls Tryz.prog 17 #[.slice A' n' m'] W (Ret (.tuple #[.string (Ig.bs (Ig.print rules).1), .int .i64 (Ig.print rules).2]) W)) := Lib.hid fun W hW => rprint39_any A' n' m' rules W (Sls.ext RuR.steadfast HRU.out hW) hn' (by omega)
        generalize Ig.bs (Ig.print rules).1 = ps at HP1 HP2
        generalize (Ig.print rules).2 = pe at HP1 HP2
        have hps : (ps.toList != ps.toList) = false := by simp
        have hpe : (pe != pe) = false := by simp
        obtain ⟨hcr, hfr, hlr⟩ := HB1.out.all
        clear hn' hfr'
        go_wp2_with fail
        refine (HP1.out _ HX1.out).mono ?_
        rintro e w2 ⟨rfl, hx2⟩
        have HX2 := Lib.hid (HX1.out.trans hx2)
        have HB2 := Lib.hid (Blk.ext hx2 HB1.out)
        clear hx2 HX1 HB1 hcr hfr hlr HP1 HX c0 c1
        obtain ⟨hcr, hfr, hlr⟩ := HB2.out.all
        go_wp2_with fail
        refine (HP2.out _ HX2.out).mono ?_
        rintro e w3 ⟨rfl, hx3⟩
        have HX3 := Lib.hid (HX2.out.trans hx3)
        clear hx3 HX2 HB2 hcr hfr hlr HP2
        go_wp2_with fail
        go_roundw
        case rel => exact ⟨k + 1, rfl, hlt, HX3⟩
        case measure => simp [intOf]; omega
      · obtain rfl : k = n := by omega
        have HC1 : Hid (∀ W, Ext w W → Calls Tryz.prog 18 #[.slice A k c] W (Ret (.int .i64 (Ig.fcheck l)) W)) := Lib.hid fun W hW => icheck_any A k c l W (Sls.ext FiR.steadfast HL.out hW) HN.out (by omega) HF.out (HG.out.ext hW)
        have HC2 : Hid (∀ W, Ext w W → Calls Tryz.prog 19 #[.slice A k c] W (Ret (.int .i64 (Ig.fcheck l)) W)) := Lib.hid fun W hW => rcheck39_any A k c l W (Sls.ext FiR.steadfast HL.out hW) HN.out (by omega) HF.out
        generalize Ig.fcheck l = fc at HC1 HC2
        have hfc : (fc == fc) = true := by simp
        go_wp2_with fail
        refine (HC1.out _ HX.out).mono ?_
        rintro e w2 ⟨rfl, hx2⟩
        have HX2 := Lib.hid (HX.out.trans hx2)
        clear hx2 HX
        go_wp2_with fail
        refine (HC2.out _ HX2.out).mono ?_
        rintro e w3 ⟨rfl, hx3⟩
        have HX3 := Lib.hid (HX2.out.trans hx3)
        clear hx3 HX2
        go_wp2_with fail
        refine (HAW.out _ HX3.out).mono ?_
        rintro e w4 ⟨rfl, hx4⟩
        have HX4 := Lib.hid (HX3.out.trans hx4)
        clear hx4 HX3
        go_wp2_with fail
        go_ret
        exact ⟨rfl, HX4.out⟩
end Go.Proofs.YtnjcifppkijanaaGreatDoor
