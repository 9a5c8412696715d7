/- Walks: IgnoreBelow. -/
import Derived.Test.YtnjcifppkijanaaGreatDoorPL
import Derived.Test.YtnjcifppkijanaaGreatDoorYj
set_option linter.unusedSimpArgs false
set_option linter.unusedVariables false
namespace Go.Proofs.YtnjcifppkijanaaGreatDoor
open Go Go.RowKit Go.Shelf
set_option maxHeartbeats 8000000 in
set_option maxRecDepth 100000 in
theorem below_walk (A : Option Addr) (n c : Nat) (l : List Ig.Fi) (dir path : ByteArray) (w : World) (hg : Glob w) (h : Fis w All A l) (hn : l.length = n) (hb : n ≤ 4611686018427387904) (hrl : ∀ f ∈ l, f.rules.length ≤ 4611686018427387904) :
    Calls Tryz.prog 6 #[.slice A n c, .string dir, .string path] w (Ret (.bool true) w) := by
  have HG := Lib.hid hg
  have HL := Lib.hid h
  have HN := Lib.hid hn
  have HGR := Lib.hid (great39_any A n c l w h hn hb hrl)
  obtain ⟨gr, hgr⟩ : ∃ gr, gr = Ig.great l := ⟨_, rfl⟩
  rw [← hgr] at HGR
  have HE := Lib.hid hgr
  have HAW : Hid (∀ W, Ext w W → Calls Tryz.prog 11 #[] W (Ret (.bool true) W)) := Lib.hid fun W hW => awake39_any W (HG.out.ext hW)
  have HPA : Hid (∀ W, Calls Tryz.prog 22 #[.string path] W (Same (.bool (Qm.isPath path)) W)) := Lib.hid fun W => rpath_same path W
  generalize hip : Qm.isPath path = ip at HPA
  have HIP := Lib.hid hip
  have hx := Ext.refl w
  clear h hn hg hgr hrl hip
  go_enter Tryz.func6, Tryz.ntmps6
  go_wp2_with fail
  refine HGR.out.mono ?_
  rintro e w1 ⟨rfl, hx0⟩
  have HX := Lib.hid (hx.trans hx0)
  clear hx hx0 HGR
  by_cases hbad : gr = true ∨ (50 < dir.size ∨ 50 < path.size)
  · have hb2 : gr = true ∨ ((gr = false ∧ (50 : Int) < (dir.size : Int)) ∨ ((gr = false ∧ ¬ ((50 : Int) < (dir.size : Int))) ∧ (50 : Int) < (path.size : Int))) := by
      cases gr
      · rcases hbad with h | h
        · cases h
        · by_cases h5 : 50 < dir.size
          · exact .inr (.inl ⟨rfl, by omega⟩)
          · exact .inr (.inr ⟨⟨rfl, by omega⟩, by omega⟩)
      · exact .inl rfl
    clear hbad
    rcases hb2 with rfl | ⟨rfl, h3⟩ | ⟨⟨rfl, h3⟩, h4⟩
    all_goals
      go_wp2_with fail
      refine (HAW.out _ HX.out).mono ?_
      rintro e w2 ⟨rfl, hx0⟩
      have HX2 := Lib.hid (HX.out.trans hx0)
      clear hx0
      go_wp2_with fail
      go_ret
      exact ⟨rfl, HX2.out⟩
  · have hgf : gr = false := by cases gr <;> simp_all
    subst hgf
    have hs1 : ¬ ((50 : Int) < (dir.size : Int)) := by omega
    have hs2 : ¬ ((50 : Int) < (path.size : Int)) := by omega
    have hd : dir.size ≤ 50 := by omega
    have hp : path.size ≤ 50 := by omega
    clear hbad
    go_wp2_with fail
    refine (HPA.out _).mono ?_
    rintro e w2 ⟨rfl, rfl⟩
    cases ip with
    | false =>
      go_wp2_with fail
      refine (HAW.out _ HX.out).mono ?_
      rintro e w3 ⟨rfl, hx0⟩
      have HX2 := Lib.hid (HX.out.trans hx0)
      clear hx0
      go_wp2_with fail
      go_ret
      exact ⟨rfl, HX2.out⟩
    | true =>
      have hn1 : n ≤ 5 := by rw [← HN.out]; exact (Ig.great_false HE.out.symm).1
      have HF := Lib.hid (Ig.great_false HE.out.symm).2
      have HIG : Hid (∀ (q : ByteArray) (d : Bool) W, Ext w W → q.size ≤ 1000000 → Calls Tryz.prog 23 #[.slice A n c, .string q, .bool d] W (Ret (.bool (Ig.Ignored l q d)) W)) := Lib.hid fun q d W hW hq => Ignored_any A n c l q d W HN.out (by omega) (Sls.ext FiR.steadfast HL.out hW) HF.out hq (HG.out.ext hW)
      have HI0 := Lib.hid (HIG.out dir true _ HX.out (by omega))
      generalize hiv : Ig.Ignored l dir true = iv at HI0
      have HIV := Lib.hid hiv
      clear hiv
      go_wp2_with fail
      refine HI0.out.mono ?_
      rintro e w3 ⟨rfl, hx0⟩
      have HX3 := Lib.hid (HX.out.trans hx0)
      clear hx0 HI0 HX
      cases iv with
      | false =>
        go_wp2_with fail
        refine (HAW.out _ HX3.out).mono ?_
        rintro e w4 ⟨rfl, hx0⟩
        have HX4 := Lib.hid (HX3.out.trans hx0)
        clear hx0
        go_wp2_with fail
        go_ret
        exact ⟨rfl, HX4.out⟩
      | true =>
        have HZ : Hid (∀ (d : Bool) W, Ext w W → Calls Tryz.prog 23 #[.slice A n c, .string (dir ++ ⟨#[47]⟩ ++ path), .bool d] W (Ret (.bool true) W)) := Lib.hid fun d W hW => by
          have := HIG.out (dir ++ ⟨#[47]⟩ ++ path) d W hW (by simp only [ByteArray.size_append, szB]; omega)
          rw [Ig.below_law HIV.out HIP.out (c := dir ++ ⟨#[47]⟩ ++ path) (by simp [Ig.L]) (by omega) d] at this
          exact this
        clear HIG HPA
        go_wp2_with fail
        all_goals first | (exfalso; omega) | skip
        refine (HZ.out _ _ HX3.out).mono ?_
        rintro e w4 ⟨rfl, hx0⟩
        have HX4 := Lib.hid (HX3.out.trans hx0)
        clear hx0 HX3
        go_wp2_with fail
        all_goals first | (exfalso; omega) | skip
        refine (HZ.out _ _ HX4.out).mono ?_
        rintro e w5 ⟨rfl, hx0⟩
        have HX5 := Lib.hid (HX4.out.trans hx0)
        clear hx0 HX4
        go_wp2_with fail
        refine (HAW.out _ HX5.out).mono ?_
        rintro e w6 ⟨rfl, hx0⟩
        have HX6 := Lib.hid (HX5.out.trans hx0)
        clear hx0
        go_wp2_with fail
        go_ret
        exact ⟨rfl, HX6.out⟩
end Go.Proofs.YtnjcifppkijanaaGreatDoor
