/- Walks: PrimpatchMoves. -/
import Derived.Test.YtdbokolbheileaaGreatDoorTk
import Derived.Test.YtdbokolbheileaaGreatDoorYj
set_option linter.unusedSimpArgs false
set_option linter.unusedVariables false
namespace Go.Proofs.YtdbokolbheileaaGreatDoor
open Go Go.RowKit

namespace Tr
/-- Apply at a move. -/
def apply5 (t : List Pf) (q : Qp) : List Pf × Int :=
  if checkTree t ≠ 0 then ([], checkTree t) else if q.check ≠ 0 then ([], q.check) else move t q.path q.to_
end Tr
theorem apply5_any (p : Pv) (q : Qp) (A : Option Addr) (n c : Nat) (l : List Pf) (w : World) (h : Trs w A l) (hn : l.length = n) (hb : n ≤ 10000000000000) (hg : Glob w) {F : Nat → Prop} (hq : Is w F p q)
    (b1 : q.old.length ≤ 1152921504606846976) (b2 : q.new.length ≤ 1152921504606846976) (b3 : q.path.size ≤ 1152921504606846976) (b4 : q.to_.size ≤ 1152921504606846976) (hK : q.kind = 5) :
    Calls Tryz.prog 17 #[.slice A n c, p.v] w (GivesT (Tr.apply5 l q) w) := by
  unfold Tr.apply5
  by_cases h1 : Tr.checkTree l = 0
  · rw [if_neg (by simpa using h1)]
    by_cases h2 : q.check = 0
    · rw [if_neg (by simpa using h2)]
      exact apply_mov p q A n c l w h hn hg hq b1 b2 h1 h2 hK
    · rw [if_pos h2]
      exact apply_badpatch p q A n c l w h hn hb hg hq b1 b2 b3 b4 h1 h2
  · rw [if_pos h1]
    exact apply_badtree p A n c l w h hn hb hg h1
theorem mvq_back {a b : ByteArray} (h : (mvq a b).check = 0) : (mvq b a).check = 0 := by
  have := inv_check h
  rwa [show (mvq a b).inv = mvq b a from rfl] at this
/-- A move that went through. -/
theorem apply5_moves {l : List Pf} {p q : ByteArray} (h : (Tr.apply5 l (mvq p q)).2 = 0) : Tr.Moves l p q ∧ Tr.apply5 l (mvq p q) = (Tr.sort (l.map (Tr.shift p q)), 0) ∧ (mvq p q).check = 0 := by
  unfold Tr.apply5 at h ⊢
  by_cases h1 : Tr.checkTree l = 0
  · rw [if_neg (by simpa using h1)] at h ⊢
    by_cases h2 : (mvq p q).check = 0
    · rw [if_neg (by simpa using h2)] at h ⊢
      obtain ⟨p1, p2, n1, n2⟩ := check_mv h2 rfl
      obtain ⟨hm, _⟩ := Tr.move_moves (p := p) (q := q) (Tr.good_iff.1 h1) p1 p2 n1 n2 h
      exact ⟨hm, hm.move, h2⟩
    · rw [if_pos h2] at h
      exact (h2 h).elim
  · rw [if_pos h1] at h
    exact (h1 h).elim
theorem apply5_back {l : List Pf} {p q : ByteArray} (h : Tr.Moves l p q) (hc : (mvq p q).check = 0) : Tr.apply5 (Tr.sort (l.map (Tr.shift p q))) (mvq q p) = (l, 0) := by
  unfold Tr.apply5
  rw [if_neg (by simpa using Tr.good_iff.2 h.good'), if_neg (by simpa using mvq_back hc)]
  show Tr.move _ q p = _
  rw [h.back.move, h.again]

set_option maxHeartbeats 16000000 in
set_option maxRecDepth 100000 in
theorem moves_walk (A : Option Addr) (n c : Nat) (l : List Pf) (s t : ByteArray) (w : World) (h : Trs w A l) (hn : l.length = n) (hb : n ≤ 10000000000000) (hz : ∀ f ∈ l, f.path.size ≤ 140737488355328 ∧ f.data.size ≤ 140737488355328) (hs : s.size ≤ 140737488355328) (ht : t.size ≤ 140737488355328) (hg : Glob w) :
    Calls Tryz.prog 6 #[.slice A n c, .string s, .string t] w (Ret (.bool true) w) := by
  have HG := Lib.hid (fun W (hW : Ext w W) => greattree_any A n c l W (h.ext hW) hn (by omega) hz)
  have HA := Lib.hid (fun W (hW : Ext w W) => awake12_any W (hg.ext hW))
  have HQ := Lib.hid h
  have HN := Lib.hid hn
  have Hg := Lib.hid hg
  have hgreat : (Tr.great l = true ∨ 300 < s.size ∨ 300 < t.size) ∨ (Tr.great l = false ∧ ¬ 300 < s.size ∧ ¬ 300 < t.size) := by
    cases Tr.great l <;> simp <;> omega
  rcases hgreat with hgreat | ⟨hgr, h3, h4⟩
  · clear h hn hz hg
    cases hgr : Tr.great l
    · have HGr := Lib.hid hgr
      have h34 : 300 < s.size ∨ (¬ 300 < s.size ∧ 300 < t.size) := by
        rw [hgr] at hgreat
        simp at hgreat
        omega
      clear hgr hgreat
      rcases h34 with h3 | ⟨h3, h4⟩
      · skip
        go_enter Tryz.func6, Tryz.ntmps6
        have hx := Ext.refl w
        go_wp2_with (first | (go_at_call 10; refine (HG.out _ EX).mono ?_; rintro e w1 ⟨rfl, hx0⟩; rw [HGr.out]; have hy := Ext.trans (a := w) EX hx0; clear hx; have hx := hy; clear hy hx0) | (go_at_call 11; refine (HA.out _ EX).mono ?_; rintro e w1 ⟨rfl, hx0⟩; skip; have hy := Ext.trans (a := w) EX hx0; clear hx; have hx := hy; clear hy hx0))
        (go_ret; refine Ret.mk ?_ ?_; (focus (rfl; done)); (focus (exact EX; done)))
      · skip
        go_enter Tryz.func6, Tryz.ntmps6
        have hx := Ext.refl w
        go_wp2_with (first | (go_at_call 10; refine (HG.out _ EX).mono ?_; rintro e w1 ⟨rfl, hx0⟩; rw [HGr.out]; have hy := Ext.trans (a := w) EX hx0; clear hx; have hx := hy; clear hy hx0) | (go_at_call 11; refine (HA.out _ EX).mono ?_; rintro e w1 ⟨rfl, hx0⟩; skip; have hy := Ext.trans (a := w) EX hx0; clear hx; have hx := hy; clear hy hx0))
        (go_ret; refine Ret.mk ?_ ?_; (focus (rfl; done)); (focus (exact EX; done)))
    · have HGr := Lib.hid hgr
      clear hgr hgreat
      go_enter Tryz.func6, Tryz.ntmps6
      have hx := Ext.refl w
      go_wp2_with (first | (go_at_call 10; refine (HG.out _ EX).mono ?_; rintro e w1 ⟨rfl, hx0⟩; rw [HGr.out]; have hy := Ext.trans (a := w) EX hx0; clear hx; have hx := hy; clear hy hx0) | (go_at_call 11; refine (HA.out _ EX).mono ?_; rintro e w1 ⟨rfl, hx0⟩; skip; have hy := Ext.trans (a := w) EX hx0; clear hx; have hx := hy; clear hy hx0))
      (go_ret; refine Ret.mk ?_ ?_; (focus (rfl; done)); (focus (exact EX; done)))
  have HGr := Lib.hid hgr
  have HP := Lib.hid (fun W (hW : Ext w W) => apply5_any ((mvq s t).pv none 0 none 0) (mvq s t) A n c l W (h.ext hW) hn hb (hg.ext hW) (mvq_is W s t) (Nat.zero_le _) (Nat.zero_le _) (by show s.size ≤ _; omega) (by show t.size ≤ _; omega) rfl)
  have hln : n ≤ 12 := by
    unfold Tr.great at hgr
    rw [Bool.or_eq_false_iff] at hgr
    have := of_decide_eq_false hgr.1
    omega
  by_cases he : (Tr.apply5 l (mvq s t)).2 = 0
  rotate_left
  · have he2 : ((Tr.apply5 l (mvq s t)).2 != 0) = true := by simpa using he
    clear h hn hz hg hgr he
    generalize (Tr.apply5 l (mvq s t)) = r at he2 HP
    obtain ⟨r1, r2⟩ := r
    dsimp only at he2
    go_enter Tryz.func6, Tryz.ntmps6
    have hx := Ext.refl w
    go_wp2_with (first
      | (go_at_call 10; refine (HG.out _ EX).mono ?_; rintro e w1 ⟨rfl, hx0⟩; rw [HGr.out]; have hy := Ext.trans (a := w) EX hx0; clear hx; have hx := hy; clear hy hx0)
      | (go_at_call 11; refine (HA.out _ EX).mono ?_; rintro e w1 ⟨rfl, hx0⟩; skip; have hy := Ext.trans (a := w) EX hx0; clear hx; have hx := hy; clear hy hx0)
      | (go_at_call 17; refine (HP.out _ EX).mono ?_; rintro e w3 ⟨B, m, d, rfl, hm, hT, hx0⟩; have hy := Ext.trans (a := w) EX hx0; clear hx; have hx := hy; have Hm := Lib.hid hm; clear hy hx0 hm))
    (go_ret; refine Ret.mk ?_ ?_; (focus (rfl; done)); (focus (exact EX; done)))
  · obtain ⟨hM, hr, hck⟩ := apply5_moves he
    have HM := Lib.hid hM
    have Hck := Lib.hid hck
    simp only [hr] at HP
    clear h hn hz hg hgr he hM hck hr
    go_enter Tryz.func6, Tryz.ntmps6
    have hx := Ext.refl w
    go_wp2_with (first
      | (go_at_call 10; refine (HG.out _ EX).mono ?_; rintro e w1 ⟨rfl, hx0⟩; rw [HGr.out]; have hy := Ext.trans (a := w) EX hx0; clear hx; have hx := hy; clear hy hx0)
      | (go_at_call 17; refine (HP.out _ EX).mono ?_; rintro e w3 ⟨B, m, d, rfl, hm, hT, hx0⟩; have hy := Ext.trans (a := w) EX hx0; clear hx; have hx := hy; have Hm := Lib.hid hm; clear hy hx0 hm))
    have hmn : m = n := by rw [Hm.out]; show (Tr.sort _).length = n; rw [Tr.sort_length HM.out.dst, List.length_map, HN.out]
    subst hmn
    have HT : Hid (Trs w3 B (Tr.sort (l.map (Tr.shift s t)))) := Lib.hid hT.out.1
    have HL : Hid ((Tr.sort (l.map (Tr.shift s t))).length = m) := Lib.hid Hm.out.symm
    have HFa := Lib.hid (fun u W (hW : Ext w3 W) => find_any B m d u _ W (HT.out.ext hW) HL.out hb)
    have HX3 := Lib.hid hx
    have HP2 := Lib.hid (fun W (hW : Ext w3 W) => by
      have := apply5_any ((mvq t s).pv none 0 none 0) (mvq t s) B m d _ W (HT.out.ext hW) HL.out hb (Hg.out.ext (HX3.out.trans hW)) (mvq_is W t s) (Nat.zero_le _) (Nat.zero_le _) (by show t.size ≤ _; omega) (by show s.size ≤ _; omega) rfl
      rw [apply5_back HM.out Hck.out] at this
      exact this)
    have hq0 := fun f : Pf => eqlIn_pf f f
    have HE := Lib.hid hq0
    have hgu := guard_pf
    clear hT hx hq0 HP HGr HG
    go_loopw [43] (fun i wr => ∃ k : Nat, k ≤ m ∧ i = .int .i64 k ∧ Hid (Ext w3 wr)) (fun i wr => m - (intOf i).toNat)
    case atStart => exact ⟨0, Nat.zero_le _, rfl, Lib.hid (Ext.refl _)⟩
    case round =>
      obtain ⟨k, hk, rfl, HXr⟩ := hrel
      have hx : Ext w wr := HX3.out.trans HXr.out
      by_cases hlt : k < m
      · have hkl : k < l.length := by rw [HN.out]; exact hlt
        have hf : l[k]? = some (l[k]'hkl) := List.getElem?_eq_getElem hkl
        have hmem := List.getElem_mem hkl
        have s1 : (l[k]'hkl).path.size ≤ 200 := by
          have := Tr.element_path (HM.out.good.el _ hmem)
          rw [isPath_pieces, Bool.and_eq_true] at this
          exact of_decide_eq_true this.1
        have hfound := found_some ((Tr.sort_srt HM.out.dst).find.2 ⟨HM.out.mem.2 ⟨_, hmem, rfl⟩, rfl⟩)
        generalize l[k]'hkl = f at hf s1 hfound
        obtain ⟨b, o, rfl, hbl, c0, c1, c2, c3⟩ := (HQ.out.ext hx).get hf
        clear hf hkl hmem
        cases e1 : Qm.eqB f.path s
        · cases e2 : Qm.below f.path s
          · have e1' : (f.path.toList == s.toList) = false := e1
            have E2 := Lib.hid e2
            have hsh : Tr.shift s t f = f := by unfold Tr.shift; rw [e1, e2]; rfl
            rw [hsh] at hfound
            have HV := Lib.hid hfound
            have hq := HE.out f
            rw [Pf.same_iff.2 rfl] at hq
            clear e1 e2 hfound hsh
            go_wp2_with (first
              | (go_at_call 21; refine (rbelow_same f.path s _ (by omega)).mono ?_; rintro e w4 ⟨rfl, rfl⟩; rw [E2.out])
              | (go_at_call 12; refine (HFa.out _ _ (HXr.out.trans EX)).mono ?_; rintro e wF ⟨rfl, hx0⟩; rw [HV.out]; have hy := Ext.trans (a := w) EX hx0; clear hx; have hx := hy; clear hy; obtain ⟨hccwF, hffwF⟩ := bcell hx0; have hzzwF := hx0.size_le; (try simp only [World.size_alloc] at hzzwF); (have k1 : wr.heap.size < wF.heap.size := by omega); have HXF := Lib.hid (HXr.out.trans (((Ext.refl wr).alloc _).trans hx0)); clear hx0))
            go_roundw
            case rel => exact ⟨k + 1, by omega, rfl, Lib.hid (HXF.out.trans EX)⟩
            case measure => simp [intOf]; omega
          · have e1' : (f.path.toList == s.toList) = false := e1
            have E2 := Lib.hid e2
            have e3 : s.size ≤ f.path.size := Nat.le_of_lt (Qm.size_of_below e2)
            have hsh : Tr.shift s t f = ⟨t ++ f.path.extract s.size f.path.size, f.ty, f.mode, f.data⟩ := by unfold Tr.shift; rw [e1, e2]; rfl
            rw [hsh] at hfound
            have HV := Lib.hid hfound
            have hq := HE.out ⟨t ++ f.path.extract s.size f.path.size, f.ty, f.mode, f.data⟩
            rw [Pf.same_iff.2 rfl] at hq
            clear e1 e2 hfound hsh
            go_wp2_with (first
              | (go_at_call 21; refine (rbelow_same f.path s _ (by omega)).mono ?_; rintro e w4 ⟨rfl, rfl⟩; rw [E2.out])
              | (go_at_call 12; refine (HFa.out _ _ (HXr.out.trans EX)).mono ?_; rintro e wF ⟨rfl, hx0⟩; rw [HV.out]; have hy := Ext.trans (a := w) EX hx0; clear hx; have hx := hy; clear hy; obtain ⟨hccwF, hffwF⟩ := bcell hx0; have hzzwF := hx0.size_le; (try simp only [World.size_alloc] at hzzwF); (have k1 : wr.heap.size < wF.heap.size := by omega); have HXF := Lib.hid (HXr.out.trans ((EX : Ext wr _).trans hx0)); clear hx0))
            go_roundw
            case rel => exact ⟨k + 1, by omega, rfl, Lib.hid (HXF.out.trans EX)⟩
            case measure => simp [intOf]; omega
        · have e1' : (f.path.toList == s.toList) = true := e1
          have e3 : s.size ≤ f.path.size := by rw [Qm.eqB_iff.1 e1]; exact Nat.le_refl _
          have hsh : Tr.shift s t f = ⟨t ++ f.path.extract s.size f.path.size, f.ty, f.mode, f.data⟩ := by unfold Tr.shift; rw [e1]; rfl
          rw [hsh] at hfound
          have HV := Lib.hid hfound
          have hq := HE.out ⟨t ++ f.path.extract s.size f.path.size, f.ty, f.mode, f.data⟩
          rw [Pf.same_iff.2 rfl] at hq
          clear e1 hfound hsh
          go_wp2_with (first
            | (go_at_call 12; refine (HFa.out _ _ (HXr.out.trans EX)).mono ?_; rintro e wF ⟨rfl, hx0⟩; rw [HV.out]; have hy := Ext.trans (a := w) EX hx0; clear hx; have hx := hy; clear hy; obtain ⟨hccwF, hffwF⟩ := bcell hx0; have hzzwF := hx0.size_le; (try simp only [World.size_alloc] at hzzwF); (have k1 : wr.heap.size < wF.heap.size := by omega); have HXF := Lib.hid (HXr.out.trans ((EX : Ext wr _).trans hx0)); clear hx0))
          go_roundw
          case rel => exact ⟨k + 1, by omega, rfl, Lib.hid (HXF.out.trans EX)⟩
          case measure => simp [intOf]; omega
      · have hkn : k = m := by omega
        subst hkn
        have HS : ∀ (E : Option Addr) (c2 : Nat) (W : World), Trs W E l → Ext w W → Calls Tryz.prog 19 #[.slice E k c2, .slice A k c] W (Ret (.bool true) W) := fun E c2 W hE hW => by
          have := sametree_any E A k k c2 c l l W hE (HQ.out.ext hW) HN.out HN.out hb hb
          rwa [show decide (l = l) = true from decide_eq_true rfl] at this
        have HS := Lib.hid HS
        go_wp2_with (first
          | (go_at_call 17; refine (HP2.out _ (HXr.out.trans EX)).mono ?_; rintro e w6 ⟨E6, m6, d6, rfl, hm6, hT6, hx0⟩; have hm7 : m6 = k := hm6.trans HN.out; subst hm7; have hy := Ext.trans (a := w) EX hx0; clear hx; have hx := hy; clear hy hx0 hm6)
          | (go_at_call 19; refine (HS.out _ _ _ hT6.out.1 EX).mono ?_; rintro e w7 ⟨rfl, hx0⟩; have hy := Ext.trans (a := w) EX hx0; clear hx; have hx := hy; clear hy hx0)
          | (go_at_call 11; refine (HA.out _ EX).mono ?_; rintro e w8 ⟨rfl, hx0⟩; skip; have hy := Ext.trans (a := w) EX hx0; clear hx; have hx := hy; clear hy hx0))
        (go_ret; refine Ret.mk ?_ ?_; (focus (rfl; done)); (focus (exact EX; done)))
end Go.Proofs.YtdbokolbheileaaGreatDoor
