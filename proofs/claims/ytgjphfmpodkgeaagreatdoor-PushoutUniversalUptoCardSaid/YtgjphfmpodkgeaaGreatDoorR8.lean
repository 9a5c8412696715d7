/- Walks: the mediating sequence for a merge's results. The mediating sequence for the results of a merge, both followed by m, is m: PushoutUniversal returns true for every three sequences whose reading is of bulk at most 1048576, in every state in which the listed tables of the library hold what the program's text lays. Condition: the bound of the statement's own second form, no other. -/
import Derived.Test.YtgjphfmpodkgeaaGreatDoorAx
import Derived.Test.YtgjphfmpodkgeaaGreatDoorMe
import Derived.Test.YtgjphfmpodkgeaaGreatDoorOp
import Derived.Test.YtgjphfmpodkgeaaGreatDoorCards
import Derived.Test.YtgjphfmpodkgeaaGreatDoorTie
import Derived.ProofKit
import Derived.Deep.DeepHandedRow
import Derived.Lay
set_option linter.unusedSimpArgs false
set_option linter.unusedVariables false
namespace Go.Proofs.YtgjphfmpodkgeaaGreatDoor
open Go Go.RowKit
attribute [local go_sem ↓] Go.wp_at_zero Go.wp_at_succ

/-- Mediate where there is a mediating sequence. -/
theorem mediate_go {A B C D : Option Addr} {n cA m cB k cC j cD : Nat} {a b c d l : List Qp} {w : World} (hg : Glob w) (ha : Qs w (fun _ => True) A a) (hb : Qs w (fun _ => True) B b) (hc : Qs w (fun _ => True) C c) (hd : Qs w (fun _ => True) D d)
    (hn : a.length = n) (hm : b.length = m) (hk : c.length = k) (hj : d.length = j) (hB : B = none → m = 0 ∧ cB = 0) (b1 : n ≤ 100000000) (b2 : m ≤ 100000000) (b3 : k ≤ 100000000) (b4 : j ≤ 100000000)
    (fa : ∀ q ∈ a, q.Fits) (fb : ∀ q ∈ b, q.Fits) (fc : ∀ q ∈ c, q.Fits) (fd : ∀ q ∈ d, q.Fits) {i : Nat} (hl : l.length = i) (h : Sq.mediate a b c d = some l) :
    Calls Tryz.prog 28 #[.slice A n cA, .slice B m cB, .slice C k cC, .slice D j cD] w (fun e w' => ∃ E cE, e = .returned (.tuple #[.slice E i cE, .bool true]) ∧ Hid (Qs w' (fun _ => True) E l) ∧ Ext w w') := by
  refine (mediate_any A B C D n cA m cB k cC j cD a b c d w hg ha hb hc hd hn hm hk hj hB b1 b2 b3 b4 fa fb fc fd).mono ?_
  rintro e w' ⟨hx, hy⟩
  rw [h] at hx
  rcases hx with ⟨hx, _⟩ | ⟨l', E, i', cE, hx, hl', rfl, hq⟩
  · cases hx
  · obtain rfl := Option.some.inj hx
    obtain rfl := hl.symm.trans hl'
    exact ⟨E, cE, rfl, hq, hy⟩

set_option maxHeartbeats 16000000 in
set_option maxRecDepth 100000 in
theorem universal_walk (A B C : Option Addr) (n cA m cB k cC : Nat) (a s c : List Qp) (w : World) (hg : Glob w) (ha : Qs w (fun _ => True) A a) (hb : Qs w (fun _ => True) B s) (hc : Qs w (fun _ => True) C c) (hn : a.length = n) (hm : s.length = m) (hk : c.length = k) (hB : B = none → cB = 0) (hmB : m ≤ cB)
    (b1 : n ≤ 1048576) (b2 : m ≤ 1048576) (b3 : k ≤ 1048576)
    (s1 : ∀ q ∈ a, q.old.length ≤ 1152921504606846976 ∧ q.new.length ≤ 1152921504606846976) (s2 : ∀ q ∈ s, q.old.length ≤ 1152921504606846976 ∧ q.new.length ≤ 1152921504606846976) (s3 : ∀ q ∈ c, q.old.length ≤ 1152921504606846976 ∧ q.new.length ≤ 1152921504606846976) :
    Calls Tryz.prog 10 #[.slice A n cA, .slice B m cB, .slice C k cC] w (Ret (.bool true) w) := by
  have HA := Lib.hid ha
  have HB := Lib.hid hb
  have HC := Lib.hid hc
  have HN := Lib.hid hn
  have HM := Lib.hid hm
  have HK := Lib.hid hk
  have HNM : Hid ((a ++ s).length = n + m) := Lib.hid (by simp [hn, hm])
  have HAW := Lib.hid (fun W (hW : Ext w W) => awake15_any W (hg.ext hW))
  have HBn : Hid (B = none → m = 0 ∧ cB = 0) := Lib.hid fun e => ⟨by have := hB e; omega, hB e⟩
  have HG := Lib.hid hg
  have HGR : Hid (∀ W g t D d, Blk W g t #[.slice D (n + m + k : Nat) d] → Qs W (fun _ => True) D (a ++ s ++ c) → Calls Tryz.prog 12 #[.slice (some ⟨g, 0, none⟩) 1 1] W (Tells (Seqs.small [(D, a ++ s ++ c, d)]) W)) := Lib.hid fun W g t D d hb h1 => lawgreat15_any g t [(D, a ++ s ++ c, d)] 1 W (by unfold Seqs.cells; simpa [hn, hm, hk, Nat.add_assoc, Int.add_assoc] using hb) rfl (fun x hx => by
    obtain rfl : x = (D, a ++ s ++ c, d) := by simpa using hx
    exact ⟨⟨_, h1⟩, by simp [hn, hm, hk]; omega, fun q hq => (List.mem_append.1 hq).elim (fun hq => (List.mem_append.1 hq).elim (s1 q) (s2 q)) (s3 q)⟩) (by omega)
  clear ha hb hc hn hm hk s1 s2 s3 hB hmB hg
  go_enter Tryz.func10, Tryz.ntmps10
  have hx := Ext.refl w
  go_wp2_with fail
  refine (join_go (HA.out.ext (by repeat (first | with_reducible exact Ext.refl _ | with_reducible refine Ext.alloc ?_ _))) (HB.out.ext (by repeat (first | with_reducible exact Ext.refl _ | with_reducible refine Ext.alloc ?_ _))) HN.out HM.out (by omega) (by omega)).mono ?_
  rintro e u1 ⟨D0, d0, rfl, HD0, hx0⟩
  have hs : Ext w u1 := Ext.trans (by repeat (first | with_reducible exact Ext.refl _ | with_reducible refine Ext.alloc ?_ _)) hx0
  replace HA := Lib.hid (HA.out.ext hs)
  replace HB := Lib.hid (HB.out.ext hs)
  replace HC := Lib.hid (HC.out.ext hs)
  have hx1 := hx.trans hs
  clear hx hs hx0
  have hx := hx1
  clear hx1
  dsimp only
  go_wp2_with fail
  refine (join_go (HD0.out.ext (by repeat (first | with_reducible exact Ext.refl _ | with_reducible refine Ext.alloc ?_ _))) (HC.out.ext (by repeat (first | with_reducible exact Ext.refl _ | with_reducible refine Ext.alloc ?_ _))) HNM.out HK.out (by omega) (by omega)).mono ?_
  rintro e u2 ⟨D, d, rfl, HD, hx0⟩
  have hs : Ext u1 u2 := Ext.trans (by repeat (first | with_reducible exact Ext.refl _ | with_reducible refine Ext.alloc ?_ _)) hx0
  replace HA := Lib.hid (HA.out.ext hs)
  replace HB := Lib.hid (HB.out.ext hs)
  replace HC := Lib.hid (HC.out.ext hs)
  replace HD0 := Lib.hid (HD0.out.ext hs)
  have hx1 := hx.trans hs
  clear hx hs hx0
  have hx := hx1
  clear hx1
  dsimp only
  go_wp2_with fail
  refine (HGR.out _ _ _ D d (Blk.new' rfl) (HD.out.ext (by repeat (first | with_reducible exact Ext.refl _ | with_reducible refine Ext.alloc ?_ _)))).mono ?_
  rintro e u3 ⟨v, rfl, hsm, hx0⟩
  have hs : Ext u2 u3 := Ext.trans (by repeat (first | with_reducible exact Ext.refl _ | with_reducible refine Ext.alloc ?_ _)) hx0
  replace HA := Lib.hid (HA.out.ext hs)
  replace HB := Lib.hid (HB.out.ext hs)
  replace HC := Lib.hid (HC.out.ext hs)
  replace HD0 := Lib.hid (HD0.out.ext hs)
  replace HD := Lib.hid (HD.out.ext hs)
  have hx1 := hx.trans hs
  clear hx hs hx0
  have hx := hx1
  clear hx1
  dsimp only
  have HS := Lib.hid hsm
  clear hsm HGR
  cases v
  rotate_left
  · go_wp2_with fail
    refine (HAW.out _ (hx.trans (by repeat (first | with_reducible exact Ext.refl _ | with_reducible refine Ext.alloc ?_ _)))).mono ?_
    rintro e u4 ⟨rfl, hx0⟩
    have hs : Ext u3 u4 := Ext.trans (by repeat (first | with_reducible exact Ext.refl _ | with_reducible refine Ext.alloc ?_ _)) hx0
    replace HA := Lib.hid (HA.out.ext hs)
    replace HB := Lib.hid (HB.out.ext hs)
    replace HC := Lib.hid (HC.out.ext hs)
    replace HD0 := Lib.hid (HD0.out.ext hs)
    replace HD := Lib.hid (HD.out.ext hs)
    have hx1 := hx.trans hs
    clear hx hs hx0
    have hx := hx1
    clear hx1
    dsimp only
    go_wp2_with fail
    (go_ret; refine Ret.mk ?_ ?_; (focus (rfl; done)); (focus ((repeat (first | with_reducible exact hx | with_reducible exact Ext.refl _ | with_reducible refine Ext.alloc ?_ _ | with_reducible refine Ext.drewN ?_ _ | with_reducible refine Ext.drew1 ?_ | ((with_reducible refine Ext.setCell ?_ ?_ _); rotate_left; (focus (first | (dsimp only; omega) | (simp; done) | (simp; omega)))))); done)))
  have S1 : Small (a ++ s ++ c) := HS.out rfl (D, a ++ s ++ c, d) (by simp)
  have F1 : Hid (∀ q ∈ a, q.Fits) := Lib.hid fun q hq => S1.fits q (List.mem_append_left _ (List.mem_append_left _ hq))
  have F2 : Hid (∀ q ∈ s, q.Fits) := Lib.hid fun q hq => S1.fits q (List.mem_append_left _ (List.mem_append_right _ hq))
  have F3 : Hid (∀ q ∈ c, q.Fits) := Lib.hid fun q hq => S1.fits q (List.mem_append_right _ hq)
  clear HS S1 HD HD0
  cases h1 : Sq.merge a s with
  | error p =>
    obtain ⟨i, j⟩ := p
    have H1 := Lib.hid h1
    clear h1
    go_wp2_with fail
    refine (seqmerge_bad (HG.out.ext (hx.trans (by repeat (first | with_reducible exact Ext.refl _ | with_reducible refine Ext.alloc ?_ _)))) (HA.out.ext (by repeat (first | with_reducible exact Ext.refl _ | with_reducible refine Ext.alloc ?_ _))) (HB.out.ext (by repeat (first | with_reducible exact Ext.refl _ | with_reducible refine Ext.alloc ?_ _))) HN.out HM.out HBn.out (by omega) (by omega) F1.out F2.out H1.out).mono ?_
    rintro e u4 ⟨rfl, hx0⟩
    have hs : Ext u3 u4 := Ext.trans (by repeat (first | with_reducible exact Ext.refl _ | with_reducible refine Ext.alloc ?_ _)) hx0
    replace HA := Lib.hid (HA.out.ext hs)
    replace HB := Lib.hid (HB.out.ext hs)
    replace HC := Lib.hid (HC.out.ext hs)
    have hx1 := hx.trans hs
    clear hx hs hx0
    have hx := hx1
    clear hx1
    dsimp only
    go_wp2_with fail
    refine (HAW.out _ (hx.trans (by repeat (first | with_reducible exact Ext.refl _ | with_reducible refine Ext.alloc ?_ _)))).mono ?_
    rintro e u5 ⟨rfl, hx0⟩
    have hs : Ext u4 u5 := Ext.trans (by repeat (first | with_reducible exact Ext.refl _ | with_reducible refine Ext.alloc ?_ _)) hx0
    replace HA := Lib.hid (HA.out.ext hs)
    replace HB := Lib.hid (HB.out.ext hs)
    replace HC := Lib.hid (HC.out.ext hs)
    have hx1 := hx.trans hs
    clear hx hs hx0
    have hx := hx1
    clear hx1
    dsimp only
    go_wp2_with fail
    (go_ret; refine Ret.mk ?_ ?_; (focus (rfl; done)); (focus ((repeat (first | with_reducible exact hx | with_reducible exact Ext.refl _ | with_reducible refine Ext.alloc ?_ _ | with_reducible refine Ext.drewN ?_ _ | with_reducible refine Ext.drew1 ?_ | ((with_reducible refine Ext.setCell ?_ ?_ _); rotate_left; (focus (first | (dsimp only; omega) | (simp; done) | (simp; omega)))))); done)))
  | ok r =>
    have H1 := Lib.hid h1
    have HMD : Hid (Sq.mediate a s (r.1 ++ c) (r.2 ++ c) = some c) := Lib.hid (Sq.universal (f := r.1) (s := r.2) h1)
    have HL1 : Hid (r.1.length = m) := Lib.hid ((Sq.merge_length h1).1.trans HM.out)
    have HL2 : Hid (r.2.length = n) := Lib.hid ((Sq.merge_length h1).2.trans HN.out)
    have HL3 : Hid ((r.1 ++ c).length = m + k) := Lib.hid (by have := HL1.out; have := HK.out; simp; omega)
    have HL4 : Hid ((r.2 ++ c).length = n + k) := Lib.hid (by have := HL2.out; have := HK.out; simp; omega)
    have F4 : Hid (∀ q ∈ r.1 ++ c, q.Fits) := Lib.hid fun q hq => (List.mem_append.1 hq).elim ((merge_fitting h1 F1.out F2.out).1 q) (F3.out q)
    have F5 : Hid (∀ q ∈ r.2 ++ c, q.Fits) := Lib.hid fun q hq => (List.mem_append.1 hq).elim ((merge_fitting h1 F1.out F2.out).2 q) (F3.out q)
    clear h1
    go_wp2_with fail
    refine (seqmerge_go (HG.out.ext (hx.trans (by repeat (first | with_reducible exact Ext.refl _ | with_reducible refine Ext.alloc ?_ _)))) (HA.out.ext (by repeat (first | with_reducible exact Ext.refl _ | with_reducible refine Ext.alloc ?_ _))) (HB.out.ext (by repeat (first | with_reducible exact Ext.refl _ | with_reducible refine Ext.alloc ?_ _))) HN.out HM.out HBn.out (by omega) (by omega) F1.out F2.out H1.out).mono ?_
    rintro e u4 ⟨A1, c1, A2, c2, rfl, HY, HO, _, hx0⟩
    have hs : Ext u3 u4 := Ext.trans (by repeat (first | with_reducible exact Ext.refl _ | with_reducible refine Ext.alloc ?_ _)) hx0
    replace HA := Lib.hid (HA.out.ext hs)
    replace HB := Lib.hid (HB.out.ext hs)
    replace HC := Lib.hid (HC.out.ext hs)
    have hx1 := hx.trans hs
    clear hx hs hx0
    have hx := hx1
    clear hx1
    dsimp only
    go_wp2_with fail
    refine (join_go (HY.out.ext (by repeat (first | with_reducible exact Ext.refl _ | with_reducible refine Ext.alloc ?_ _))) (HC.out.ext (by repeat (first | with_reducible exact Ext.refl _ | with_reducible refine Ext.alloc ?_ _))) HL1.out HK.out (by omega) (by omega)).mono ?_
    rintro e u5 ⟨D1, d1, rfl, HJ1, hx0⟩
    have hs : Ext u4 u5 := Ext.trans (by repeat (first | with_reducible exact Ext.refl _ | with_reducible refine Ext.alloc ?_ _)) hx0
    replace HA := Lib.hid (HA.out.ext hs)
    replace HB := Lib.hid (HB.out.ext hs)
    replace HC := Lib.hid (HC.out.ext hs)
    replace HY := Lib.hid (HY.out.ext hs)
    replace HO := Lib.hid (HO.out.ext hs)
    have hx1 := hx.trans hs
    clear hx hs hx0
    have hx := hx1
    clear hx1
    dsimp only
    go_wp2_with fail
    refine (join_go (HO.out.ext (by repeat (first | with_reducible exact Ext.refl _ | with_reducible refine Ext.alloc ?_ _))) (HC.out.ext (by repeat (first | with_reducible exact Ext.refl _ | with_reducible refine Ext.alloc ?_ _))) HL2.out HK.out (by omega) (by omega)).mono ?_
    rintro e u6 ⟨D2, d2, rfl, HJ2, hx0⟩
    have hs : Ext u5 u6 := Ext.trans (by repeat (first | with_reducible exact Ext.refl _ | with_reducible refine Ext.alloc ?_ _)) hx0
    replace HA := Lib.hid (HA.out.ext hs)
    replace HB := Lib.hid (HB.out.ext hs)
    replace HC := Lib.hid (HC.out.ext hs)
    replace HY := Lib.hid (HY.out.ext hs)
    replace HO := Lib.hid (HO.out.ext hs)
    replace HJ1 := Lib.hid (HJ1.out.ext hs)
    have hx1 := hx.trans hs
    clear hx hs hx0
    have hx := hx1
    clear hx1
    dsimp only
    go_wp2_with fail
    refine (mediate_go (HG.out.ext (hx.trans (by repeat (first | with_reducible exact Ext.refl _ | with_reducible refine Ext.alloc ?_ _)))) (HA.out.ext (by repeat (first | with_reducible exact Ext.refl _ | with_reducible refine Ext.alloc ?_ _))) (HB.out.ext (by repeat (first | with_reducible exact Ext.refl _ | with_reducible refine Ext.alloc ?_ _))) (HJ1.out.ext (by repeat (first | with_reducible exact Ext.refl _ | with_reducible refine Ext.alloc ?_ _))) (HJ2.out.ext (by repeat (first | with_reducible exact Ext.refl _ | with_reducible refine Ext.alloc ?_ _))) HN.out HM.out HL3.out HL4.out HBn.out (by omega) (by omega) (by omega) (by omega) F1.out F2.out F4.out F5.out HK.out HMD.out).mono ?_
    rintro e u7 ⟨E, cE, rfl, HE, hx0⟩
    have hs : Ext u6 u7 := Ext.trans (by repeat (first | with_reducible exact Ext.refl _ | with_reducible refine Ext.alloc ?_ _)) hx0
    replace HA := Lib.hid (HA.out.ext hs)
    replace HB := Lib.hid (HB.out.ext hs)
    replace HC := Lib.hid (HC.out.ext hs)
    replace HY := Lib.hid (HY.out.ext hs)
    replace HO := Lib.hid (HO.out.ext hs)
    replace HJ1 := Lib.hid (HJ1.out.ext hs)
    replace HJ2 := Lib.hid (HJ2.out.ext hs)
    have hx1 := hx.trans hs
    clear hx hs hx0
    have hx := hx1
    clear hx1
    dsimp only
    go_wp2_with fail
    refine (rsame_true E C k cE cC c _ (HE.out.ext (by repeat (first | with_reducible exact Ext.refl _ | with_reducible refine Ext.alloc ?_ _))) (HC.out.ext (by repeat (first | with_reducible exact Ext.refl _ | with_reducible refine Ext.alloc ?_ _))) HK.out (by omega) F3.out).mono ?_
    rintro e u8 ⟨rfl, hx0⟩
    have hs : Ext u7 u8 := Ext.trans (by repeat (first | with_reducible exact Ext.refl _ | with_reducible refine Ext.alloc ?_ _)) hx0
    replace HA := Lib.hid (HA.out.ext hs)
    replace HB := Lib.hid (HB.out.ext hs)
    replace HC := Lib.hid (HC.out.ext hs)
    replace HY := Lib.hid (HY.out.ext hs)
    replace HO := Lib.hid (HO.out.ext hs)
    replace HJ1 := Lib.hid (HJ1.out.ext hs)
    replace HJ2 := Lib.hid (HJ2.out.ext hs)
    replace HE := Lib.hid (HE.out.ext hs)
    have hx1 := hx.trans hs
    clear hx hs hx0
    have hx := hx1
    clear hx1
    dsimp only
    go_wp2_with fail
    refine (HAW.out _ (hx.trans (by repeat (first | with_reducible exact Ext.refl _ | with_reducible refine Ext.alloc ?_ _)))).mono ?_
    rintro e u9 ⟨rfl, hx0⟩
    have hs : Ext u8 u9 := Ext.trans (by repeat (first | with_reducible exact Ext.refl _ | with_reducible refine Ext.alloc ?_ _)) hx0
    replace HA := Lib.hid (HA.out.ext hs)
    replace HB := Lib.hid (HB.out.ext hs)
    replace HC := Lib.hid (HC.out.ext hs)
    replace HY := Lib.hid (HY.out.ext hs)
    replace HO := Lib.hid (HO.out.ext hs)
    replace HJ1 := Lib.hid (HJ1.out.ext hs)
    replace HJ2 := Lib.hid (HJ2.out.ext hs)
    replace HE := Lib.hid (HE.out.ext hs)
    have hx1 := hx.trans hs
    clear hx hs hx0
    have hx := hx1
    clear hx1
    dsimp only
    go_wp2_with fail
    (go_ret; refine Ret.mk ?_ ?_; (focus (rfl; done)); (focus ((repeat (first | with_reducible exact hx | with_reducible exact Ext.refl _ | with_reducible refine Ext.alloc ?_ _ | with_reducible refine Ext.drewN ?_ _ | with_reducible refine Ext.drew1 ?_ | ((with_reducible refine Ext.setCell ?_ ?_ _); rotate_left; (focus (first | (dsimp only; omega) | (simp; done) | (simp; omega)))))); done)))
end Go.Proofs.YtgjphfmpodkgeaaGreatDoor
namespace Go.Proofs.YtgjphfmpodkgeaaGreatDoor.PushoutUniversal
open Go.ChangeShapes Go.WideShapes Go.ChangeAt Go.RowKit Go.Deep

theorem own : ownKnob Tryz.prog.godebug = none := by kernel_rfl
theorem listIn : 22 < Tryz.prog.types.size := of_decide_eq_true (by kernel_rfl)
theorem glob {W : World} (h : W.ShapedOpen Tryz.prog) : Glob W :=
  cell_of_shapedOpen_int (zero := #[.int .i64 0]) (t := 3) h (of_decide_eq_true (by kernel_rfl)) (by kernel_rfl) rfl (by kernel_rfl) (by kernel_rfl) Tryz.underlying3
theorem bulk_one {H : Type} (d : DataW H) : 1 ≤ Rows.uptoBulk d := by
  cases d with
  | lit l => cases l <;> simp [Rows.uptoBulk]
  | _ => simp [Rows.uptoBulk]
theorem bulk_all {H : Type} (l : List (DataW H)) : l.length ≤ Rows.uptoBulkAll l := by
  induction l with
  | nil => simp [Rows.uptoBulkAll]
  | cons x r ih =>
    have := bulk_one x
    simp only [Rows.uptoBulkAll, List.length_cons]
    omega
/-- A list that came in is no longer than the bulk of its reading. -/
theorem bulk_list {H : Type} {enc : TypeId × Value → H} {W : World} {fuel : Nat} {A : Option Addr} {n c : Nat} {d : DataW H} {p : List MemPlace} (g : DataW.trod enc Tryz.prog W 0 (fun _ => true) true fuel 22 [.slice A n c] = some (d, p)) : n ≤ Rows.uptoBulk d := by
  have hu : Tryz.prog.underlying 22 = some (.slice 39) := Tryz.underlying22
  rcases open_slice hu g with ⟨e, _⟩ | ⟨a, len, cap, m, k, D, Pl, e, _, _, _, _, hx, _⟩
  · obtain ⟨_, rfl, _⟩ : A = none ∧ n = 0 ∧ c = 0 := by simpa using e
    exact Nat.zero_le _
  · obtain ⟨_, rfl, _⟩ : A = some a ∧ n = len ∧ c = cap := by simpa using e
    obtain rfl := (Prod.mk.inj hx).1
    have h1 := bulk_all ((List.range n).map D)
    rw [List.length_map, List.length_range] at h1
    simp only [Rows.uptoBulk]
    omega

set_option maxHeartbeats 2000000 in
set_option maxRecDepth 100000 in
theorem contract (H : Type) (enc : TypeId × Value → H) (W : World) (base : Nat) (args : Array Value) (ds gs : List (DataW H)) (before : List MemPlace)
    (hval : ∀ (j : Nat) t v, Tryz.f10.params[j]? = some t → args[j]? = some v → Value.okWide Tryz.prog W .any base t v)
    (hW : DataW.Whole enc Tryz.prog Tryz.f10.params.toList Rows.pushoutUniversalSpec.vars false W args.toList ds gs before)
    (hsm : Rows.uptoSmall H (ds ++ gs) = true)
    (hwt : ∀ n ∈ DataW.weightsEach Tryz.prog (Tryz.f10.params.toList ++ (OpenSpec.ofChange Rows.pushoutUniversalSpec).bare.plain.varTypes Tryz.prog) (ds ++ gs), n ≤ reachBytes) (hS : W.ShapedOpen Tryz.prog) :
    Calls Tryz.prog 10 args W fun e W' => ∃ v, e = .returned v ∧ Rows.pushoutUniversalSpec.post enc Tryz.prog Tryz.f10 false true false false W args v W' := by
  have hW' := hW
  obtain ⟨p, q, hA0, hV, rfl, hfz, hnd⟩ := hW
  have hA : DataW.TrodAll enc Tryz.prog W 0 (fun _ => true) true Tryz.f10.params.toList args.toList ds p := hA0
  rw [Tryz.params10] at hA hval hwt
  obtain ⟨v0, vs0, d0, ds0, p0, q0, hargs, rfl, rfl, h0, r0⟩ := trodAll_cons hA
  obtain ⟨v1, vs1, d1, ds1, p1, q1, rfl, rfl, rfl, h1, r1⟩ := trodAll_cons r0
  obtain ⟨v2, vs2, d2, ds2, p2, q2, rfl, rfl, rfl, h2, r2⟩ := trodAll_cons r1
  obtain ⟨rfl, rfl, rfl⟩ := trodAll_nil r2
  obtain rfl : args = #[v0, v1, v2] := by cases args; simp_all
  obtain ⟨rfl, rfl⟩ := trodVars_none hV
  obtain ⟨x0, y0, z0, ex0⟩ := okWide_slice Tryz.underlying22 (hval 0 22 v0 rfl rfl)
  subst ex0
  obtain ⟨f0, g0⟩ := h0
  obtain ⟨A0, l0, c0, ey0, Q0, le0, ub0, nn0, mk0⟩ := open_prims (x := (d0, p0)) g0 (weights_mem (j := 0) hwt rfl rfl)
  obtain ⟨rfl, rfl, rfl⟩ : x0 = A0 ∧ y0 = l0.length ∧ z0 = c0 := by simpa using ey0
  obtain ⟨x1, y1, z1, ex1⟩ := okWide_slice Tryz.underlying22 (hval 1 22 v1 rfl rfl)
  subst ex1
  obtain ⟨f1, g1⟩ := h1
  obtain ⟨A1, l1, c1, ey1, Q1, le1, ub1, nn1, mk1⟩ := open_prims (x := (d1, p1)) g1 (weights_mem (j := 1) hwt rfl rfl)
  obtain ⟨rfl, rfl, rfl⟩ : x1 = A1 ∧ y1 = l1.length ∧ z1 = c1 := by simpa using ey1
  obtain ⟨x2, y2, z2, ex2⟩ := okWide_slice Tryz.underlying22 (hval 2 22 v2 rfl rfl)
  subst ex2
  obtain ⟨f2, g2⟩ := h2
  obtain ⟨A2, l2, c2, ey2, Q2, le2, ub2, nn2, mk2⟩ := open_prims (x := (d2, p2)) g2 (weights_mem (j := 2) hwt rfl rfl)
  obtain ⟨rfl, rfl, rfl⟩ : x2 = A2 ∧ y2 = l2.length ∧ z2 = c2 := by simpa using ey2
  have hbulk := of_decide_eq_true hsm
  simp only [List.append_nil, Rows.uptoBulkAll] at hbulk
  have bl0 := bulk_list g0
  have bl1 := bulk_list g1
  have bl2 := bulk_list g2
  clear hA0
  have mks : ∀ {l : List Qp}, (∀ q ∈ l, q.Meek) → ∀ q ∈ l, q.old.length ≤ 1152921504606846976 ∧ q.new.length ≤ 1152921504606846976 := fun h q hq => ⟨(h q hq).old, (h q hq).new⟩
  refine (universal_walk x0 x1 x2 l0.length z0 l1.length z1 l2.length z2 l0 l1 l2 W (glob hS) Q0 Q1 Q2 rfl rfl rfl nn1 le1 (by omega) (by omega) (by omega) (mks mk0) (mks mk1) (mks mk2)).mono fun e W' ⟨he, hx⟩ => ?_
  refine ⟨_, he, post_of_ext rfl hW' hx (fun t ht => ?_) (fun _ _ _ => trodAll_cons_mk (shut_bool Tryz.underlying4 _) trodAll_mk0) rfl rfl (ok_one (by kernel_rfl) rfl (okWide_bool_mk Tryz.underlying4 _))⟩
  rw [Tryz.params10] at ht
  obtain rfl : t = 22 := by simpa using ht
  exact listIn

/-! ### The witness: no patches -/
def zeroV : Value := .slice none 0 0
def zeroD {H : Type} : DataW H := .nil
theorem reads (os : Os) {H : Type} (enc : TypeId × Value → H) : DataW.whole enc Tryz.prog ((World.laidAll Tryz.prog os Rows.pushoutUniversalUptoRow.laid).forCall (fun _ _ => 0) ⟨#[], #[zeroV, zeroV, zeroV], []⟩).memory Tryz.f10.params.toList Rows.pushoutUniversalSpec.vars false #[zeroV, zeroV, zeroV].toList 8 = some ([zeroD, zeroD, zeroD], [], []) := by kernel_rfl
theorem laid_met (os : Os) : laidMet Tryz.prog Rows.pushoutUniversalUptoRow.laid ((World.laidAll Tryz.prog os Rows.pushoutUniversalUptoRow.laid).forCall (fun _ _ => 0) ⟨#[], #[zeroV, zeroV, zeroV], []⟩).memory :=
  laidMet_laidAll _ (by kernel_rfl) (by kernel_rfl)

set_option maxRecDepth 100000 in
theorem lifted (os : Os) (started : os.Started) (H : Type) (enc : TypeId × Value → H) (F : Stop.Interp) :
    ReturnsInHanded {} Tryz.checked os 10 .any ((Rows.OpenSpec.upto Rows.pushoutUniversalSpec).preRow enc Tryz.prog Tryz.f10 Rows.pushoutUniversalUptoRow.domain false Rows.pushoutUniversalUptoRow.laid) (((Rows.OpenSpec.upto Rows.pushoutUniversalSpec).at F).post enc Tryz.prog Tryz.f10 false true false false) := by
  refine returnsInHanded_of_row (C := Tryz.checked) (s := (Rows.OpenSpec.upto Rows.pushoutUniversalSpec)) own started (by kernel_rfl) Tryz.func10
    (witness_row_at (enc := enc) (C := Tryz.checked) false (World.laidAll Tryz.prog os Rows.pushoutUniversalUptoRow.laid) #[zeroV, zeroV, zeroV] (World.laidAll_os _ _ _) (by kernel_rfl) (by kernel_rfl) (by kernel_rfl)
      (OpenSpec.preRow_of_cond 8 (reads os enc) (by kernel_rfl) (fun k hk => by cases hk; kernel_rfl) (by kernel_rfl) (laid_met os))) ?_
  intro W base args ds gs before hval hW _ hcond hwt _ hS _
  exact contract H enc W base args ds gs before hval hW (hcond _ rfl) (fun n hn => of_decide_eq_true (List.all_eq_true.1 hwt n hn)) hS

theorem said : Rows.PushoutUniversalUptoSaid :=
  OpenClaim.holds_of_cond 10 Tryz.f10 rfl rfl rfl rfl rfl rfl rfl ⟨rfl, rfl, rfl, rfl, rfl⟩ rfl rfl rfl rfl rfl (by kernel_rfl) Tryz.func10 (by kernel_rfl)
    (of_decide_eq_true (by kernel_rfl)) (by unfold Func.isWrapper; first | (rw [if_pos (by decide +kernel)]; kernel_rfl) | (rw [if_neg (by decide +kernel)]; exact ⟨rfl, rfl⟩))
    (fun os started H enc _ F => by rw [OpenClaim.pre_eq_preRow]; exact lifted os started H enc F)

/-- No parameter wants a stand-in; the program's own looks are off. -/
theorem plain (f : FuncId) (fn : Func) (hf : Tryz.pinned.checked.prog.funcNamed Rows.pushoutUniversalUptoRow.func = some f) (hfn : Tryz.pinned.checked.prog.funcs[f]? = some fn) :
    false = Tryz.pinned.checked.prog.looks [] ∧ ∀ (j : Nat) t, fn.params[j]? = some t → Tryz.pinned.checked.prog.wantsStandIn t = false := by
  obtain rfl : f = 10 := Option.some.inj ((show Tryz.prog.funcNamed Rows.pushoutUniversalUptoRow.func = some 10 by kernel_rfl).symm.trans hf) |>.symm
  obtain rfl : fn = Tryz.f10 := (Option.some.inj (Tryz.func10.symm.trans hfn)).symm
  refine ⟨by kernel_rfl, fun j t ht => ?_⟩
  rw [Tryz.params10] at ht
  obtain rfl : t = 22 := by simpa using Array.mem_of_getElem? ht
  exact (show Tryz.prog.wantsStandIn 22 = false by kernel_rfl)

theorem card : Rows.PushoutUniversalUptoCardSaid :=
  Claim7.holds_tied_plain_at .later [] _ _ _ _ said (fun _ h => by cases h) (by kernel_rfl) (fun _ h => by cases h) pushoutUniversalUpto_row_tie rfl ⟨rfl, rfl⟩ (by kernel_rfl) rfl plain (by kernel_rfl)
end Go.Proofs.YtgjphfmpodkgeaaGreatDoor.PushoutUniversal
