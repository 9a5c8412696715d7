/- Walks: plain trees: room, CheckTree. -/
import Derived.Test.YtnjcifppkijanaaGreatDoorTc
set_option linter.unusedSimpArgs false
set_option linter.unusedVariables false
namespace Go.Proofs.YtnjcifppkijanaaGreatDoor
open Go Go.RowKit

namespace Tr
theorem isDir_snoc (t : List Pf) (f : Pf) (u : ByteArray) : isDir (t ++ [f]) u = (isDir t u || (f.ty == 4 && Qm.eqB f.path u)) := by
  unfold isDir
  rw [List.any_append, List.any_cons, List.any_nil, Bool.or_false, Bool.or_assoc]
theorem drop_at {l : List Pf} {k : Nat} {f : Pf} (h : l[k]? = some f) : l.drop k = f :: l.drop (k + 1) := by
  obtain ⟨h1, h2⟩ := List.getElem?_eq_some_iff.1 h
  rw [List.drop_eq_getElem_cons h1, h2]
theorem take_at {l : List Pf} {k : Nat} {f : Pf} (h : l[k]? = some f) : l.take (k + 1) = l.take k ++ [f] := by
  rw [List.take_add_one, h, Option.toList_some]
theorem from_element {l : List Pf} {k : Nat} {f : Pf} (h : l[k]? = some f) (he : element f ≠ 0) : checkFrom (l.take k) (l.drop k) = element f := by
  rw [drop_at h, checkFrom, if_pos he]
theorem from_wrong {l : List Pf} {k : Nat} {f : Pf} (h : l[k]? = some f) (he : element f = 0) (hw : wrong (l.take k) f = true) : checkFrom (l.take k) (l.drop k) = 9 := by
  rw [drop_at h, checkFrom, if_neg (by simpa using he), if_pos hw]
theorem from_none {l : List Pf} {k : Nat} {f : Pf} (h : l[k]? = some f) (he : element f = 0) (hw : wrong (l.take k) f = false) (hd : isDir (l.take k) (parent f.path) = false) : checkFrom (l.take k) (l.drop k) = 7 := by
  rw [drop_at h, checkFrom, if_neg (by simpa using he), if_neg (by simp [hw]), if_pos hd]
theorem from_on {l : List Pf} {k : Nat} {f : Pf} (h : l[k]? = some f) (he : element f = 0) (hw : wrong (l.take k) f = false) (hd : isDir (l.take k) (parent f.path) = true) : checkFrom (l.take (k + 1)) (l.drop (k + 1)) = checkFrom (l.take k) (l.drop k) := by
  conv => rhs; rw [drop_at h, checkFrom, if_neg (c := element f ≠ 0) (by simpa using he), if_neg (by simp [hw]), if_neg (by simp [hd])]
  rw [take_at h]
theorem wrong_succ {l : List Pf} {j : Nat} {g : Pf} (h : l[j]? = some g) (f : Pf) : wrong (l.take (j + 1)) f = (lt f.path g.path || Qm.eqB f.path g.path) := by
  unfold wrong
  rw [take_at h, List.getLast?_append]
  rfl
end Tr
theorem Dirs.still {w : World} {b : Nat} {t : List Pf} (h : Dirs w b t) {f : Pf} (hf : f.ty ≠ 4) : Dirs w b (t ++ [f]) := by
  obtain ⟨n, D, hown, h1, h2, hD⟩ := h
  refine ⟨n, D, hown, by rw [List.length_append]; omega, h2, fun s hs => ?_⟩
  rw [hD s hs, Tr.isDir_snoc, show (f.ty == 4) = false by simpa using hf, Bool.false_and, Bool.or_false]
/-- The map that CheckTree makes. -/
theorem Dirs.first (w : World) : ∃ w', (Instr.mapUpdate 72 (.map (some w.heap.size)) (.string ⟨#[]⟩) (.bool true)).run Tryz.prog (w.alloc (.map #[] 0)) = .ok () w' ∧ Dirs w' w.heap.size [] ∧ Ext w w' := by
  have hown := World.ownsMap_made (H := Unit) w Tryz.prog 9 (plainElem Tryz.prog 4)
  have hk : (ByteArray.mk #[]).size ≤ maxLen := by decide
  obtain ⟨w', hrun, r1, r2⟩ := hown.update dirs_law Tryz.underlying72 (by decide) (dirs_key hk) (plainElem_bool Tryz.underlying4 true)
  refine ⟨w', hrun, ⟨_, _, r1, Nat.le_refl _, Maps.isMap_empty.put _ _, fun u hu => ?_⟩, ?_⟩
  · unfold Tr.isDir
    rw [List.any_nil, Bool.or_false]
    by_cases e : u = ⟨#[]⟩
    · subst e
      rw [Maps.atKey_put_same Maps.isMap_empty (by first | trivial | simp [WideAt.IsKeyLit]), Qm.eqB_iff.2 rfl]
    · rw [Maps.atKey_put_other (fun k => e (by
        have := Lit.string.inj k
        exact ByteArray.ext (Array.toList_inj.1 this))), Tr.eqB_ne.2 e]
      rfl
  · exact Below.grown ((Ext.refl w).alloc _) r2 (by simp) (fun k e => by cases e; exact Nat.le_refl _)
theorem Dirs.next {w : World} {b : Nat} {l : List Pf} {k : Nat} {f : Pf} (h : Dirs w b (l.take k)) (hl : l.length ≤ 200) (hk : l[k]? = some f) (hf : f.ty = 4) (hs : f.path.size ≤ maxLen) {w0 : World} (hx : Ext w0 w) (hb : w0.heap.size ≤ b) :
    ∃ w', (Instr.mapUpdate 72 (.map (some b)) (.string f.path) (.bool true)).run Tryz.prog w = .ok () w' ∧ Dirs w' b (l.take (k + 1)) ∧ Ext w0 w' := by
  have h1 := List.length_take_le k l
  have h2 : (l.take k).length ≤ l.length := by rw [List.length_take]; omega
  obtain ⟨w', hrun, hd, hg⟩ := h.store (by omega) hs (t' := l.take (k + 1)) (by rw [Tr.take_at hk, List.length_append]; omega) (fun u => by
    rw [Tr.take_at hk, Tr.isDir_snoc, show (f.ty == 4) = true by simpa using hf, Bool.true_and]
    congr 1
    unfold Qm.eqB
    exact Bool.beq_comm)
  exact ⟨w', hrun, hd (by rw [Tr.take_at hk, List.length_append]; simp), Below.grown hx hg hx.size_le (fun k e => by cases e; exact hb)⟩

set_option maxHeartbeats 16000000 in
set_option maxRecDepth 100000 in
theorem checktree_any (A : Option Addr) (n c : Nat) (l : List Pf) (w : World) (h : Trs w A l) (hn : l.length = n) (hb : n ≤ 10000000000000) (hg : Glob w) :
    Calls Tryz.prog 33 #[.slice A n c] w (Ret (.int .i64 (Tr.checkTree l)) w) := by
  by_cases h200 : 200 < n
  · have hv : Tr.checkTree l = 4 := by unfold Tr.checkTree; rw [if_pos (by omega)]
    rw [hv]
    clear h hg hn hv
    go_enter Tryz.func33, Tryz.ntmps33
    have hx := Ext.refl w
    go_wp2
    (go_ret; refine Ret.mk ?_ ?_; (focus (rfl; done)); (focus (exact EX; done)))
  have hv : Tr.checkTree l = Tr.checkFrom (l.take 0) (l.drop 0) := by unfold Tr.checkTree; rw [if_neg (by omega)]; rfl
  rw [hv]
  clear hv
  have HQ := Lib.hid h
  have HN := Lib.hid hn
  have Hg := Lib.hid hg
  obtain ⟨w2, hrun, hD0, hX0⟩ := Dirs.first w
  have HD0 := Lib.hid (show Dirs w2 w.heap.size (l.take 0) from hD0)
  have HX0 := Lib.hid hX0
  have hmm := @run_makeMap Tryz.prog
  clear h hn hg hD0 hX0
  go_enter Tryz.func33, Tryz.ntmps33
  have hx := Ext.refl w
  clear hx
  go_wp2
  clear hmm hrun
  go_loopw [14] (fun i wr => ∃ k : Nat, k ≤ n ∧ i = .int .i64 k ∧ Hid (Dirs wr w.heap.size (l.take k)) ∧ Hid (Ext w wr) ∧ Hid (Tr.checkFrom (l.take k) (l.drop k) = Tr.checkFrom (l.take 0) (l.drop 0))) (fun i wr => n - (intOf i).toNat)
  case atStart => exact ⟨0, Nat.zero_le _, rfl, HD0, HX0, Lib.hid rfl⟩
  case round =>
    clear HD0 HX0
    obtain ⟨k, hk, rfl, HD, HX, HC⟩ := hrel
    have hx := HX.out
    by_cases hlt : k < n
    · have hkl : k < l.length := by rw [HN.out]; exact hlt
      have hf : l[k]? = some (l[k]'hkl) := List.getElem?_eq_getElem hkl
      generalize l[k]'hkl = f at hf
      obtain ⟨b, o, rfl, hbl, c0, c1, c2, c3⟩ := (HQ.out.ext hx).get hf
      have HF := Lib.hid hf
      have HG := Lib.hid (fun W (hW : Ext w W) => element_any f W (Hg.out.ext hW))
      clear hf hkl
      by_cases he : Tr.element f = 0
      · have HE := Lib.hid he
        have hs : f.path.size ≤ 200 := by
          have := Tr.element_path he
          rw [isPath_pieces, Bool.and_eq_true] at this
          exact of_decide_eq_true this.1
        have hs2 : f.path.size ≤ maxLen := by unfold maxLen; omega
        have hs3 : (Tr.parent f.path).size ≤ maxLen := by
          unfold Tr.parent maxLen
          rw [ByteArray.size_extract]
          omega
        have hs4 : f.path.size ≤ 1000000 := by omega
        have HS2 := Lib.hid hs2
        have HS3 := Lib.hid hs3
        clear hs hs2 hs3
        have hst : ∃ v : Bool, v = Tr.wrong (l.take k) f ∧ (k = 0 ∨ (0 < k ∧ ∃ g : Pf, Hid (l[k - 1]? = some g) ∧ wr.cell? ⟨b, o + (k - 1) * 4, none⟩ = some (.string g.path) ∧ (Op.bytesLess f.path.toList g.path.toList || f.path.toList == g.path.toList) = v)) := by
          refine ⟨_, rfl, ?_⟩
          rcases k with _ | j
          · exact .inl rfl
          · have hj : j < l.length := by rw [HN.out]; omega
            have hg : l[j]? = some (l[j]'hj) := List.getElem?_eq_getElem hj
            obtain ⟨b', o', e', _, d0, _⟩ := (HQ.out.ext HX.out).get hg
            cases e'
            refine .inr ⟨Nat.succ_pos _, _, Lib.hid hg, d0, ?_⟩
            rw [Tr.wrong_succ hg]
            rfl
        obtain ⟨v, hv, hst⟩ := hst
        have HV := Lib.hid hv.symm
        clear hv
        have HP := Lib.hid (fun W => parent_any f.path W hs4)
        have hbl1 : b < wr.heap.size := hbl
        rcases hst with rfl | ⟨hk0, g, HGl, d0, hle⟩
        · have hv0 : v = false := by rw [← HV.out]; rfl
          subst hv0
          simp only [Nat.zero_mul, Nat.add_zero] at c0 c1 c2 c3
          go_wp2_with (go_at_call 59; refine (HG.out _ EX).mono ?_; rintro e w1 ⟨rfl, hx0⟩; have hy := Ext.trans (a := w) EX hx0; clear hx; have hx := hy; clear hy; have HQ1 := Lib.hid (((Ext.refl wr).alloc _).trans hx0); obtain ⟨hcc, hff⟩ := bcell hx0; have hzz := hx0.size_le; (try simp only [World.size_alloc] at hzz); have hzl := Nat.lt_of_succ_le hzz; clear hx0)
          go_quiet (fail)
          cases hd : Tr.isDir (l.take 0) (Tr.parent f.path)
          · have Hd := Lib.hid hd
            clear hd
            go_wp2_with (go_at_call 60; refine (HP.out _).mono ?_; rintro e w3 ⟨rfl, hx0⟩; have hy := Ext.trans (a := w) EX hx0; clear hx; have hx := hy; clear hy; have HQ2 := Lib.hid ((Ext.drewN HQ1.out _).trans hx0); obtain ⟨hcc3, hff3⟩ := bcell hx0; have hzz3 := hx0.size_le; (try simp only [World.size_alloc, World.heap_drewN] at hzz3); simp only [World.heap_drewN] at hcc3 hff3; have hzl3 := Nat.lt_of_lt_of_le hzl hzz3; clear hx0; have HL := (HD.out.ext HQ2.out).look HS3.out; rw [Hd.out] at HL)
            (go_ret; refine Ret.mk ?_ ?_; (focus (rw [Tr.from_none HF.out HE.out HV.out Hd.out]; rfl; done)); (focus (exact EX; done)))
          · have Hd := Lib.hid hd
            clear hd
            have HO : Hid (Tr.checkFrom (l.take (0 + 1)) (l.drop (0 + 1)) = Tr.checkFrom (l.take 0) (l.drop 0)) := Lib.hid (by rw [Tr.from_on HF.out HE.out HV.out Hd.out])
            by_cases h4 : f.ty = 4
            · have H4 := Lib.hid h4
              have h5 : (f.ty == 4) = true := by simpa using h4
              clear h4
              go_wp2_with (go_at_call 60; refine (HP.out _).mono ?_; rintro e w3 ⟨rfl, hx0⟩; have hy := Ext.trans (a := w) EX hx0; clear hx; have hx := hy; clear hy; have HQ2 := Lib.hid ((Ext.drewN HQ1.out _).trans hx0); obtain ⟨hcc3, hff3⟩ := bcell hx0; have hzz3 := hx0.size_le; (try simp only [World.size_alloc, World.heap_drewN] at hzz3); simp only [World.heap_drewN] at hcc3 hff3; have hzl3 := Nat.lt_of_lt_of_le hzl hzz3; clear hx0; have HL := (HD.out.ext HQ2.out).look HS3.out; rw [Hd.out] at HL; obtain ⟨w5, hS, hS2, hS3⟩ := (HD.out.ext HQ2.out).next (by rw [HN.out]; omega) HF.out H4.out HS2.out hx (Nat.le_refl _); have HS5 := Lib.hid (⟨hS2, hS3⟩ : _ ∧ _); clear hS2 hS3)
              go_roundw
              case rel => exact ⟨0 + 1, by omega, rfl, Lib.hid HS5.out.1, Lib.hid HS5.out.2, HO⟩
              case measure => simp [intOf]; omega
            · have H4 := Lib.hid h4
              have h5 : (f.ty == 4) = false := by simpa using h4
              clear h4
              go_wp2_with (go_at_call 60; refine (HP.out _).mono ?_; rintro e w3 ⟨rfl, hx0⟩; have hy := Ext.trans (a := w) EX hx0; clear hx; have hx := hy; clear hy; have HQ2 := Lib.hid ((Ext.drewN HQ1.out _).trans hx0); obtain ⟨hcc3, hff3⟩ := bcell hx0; have hzz3 := hx0.size_le; (try simp only [World.size_alloc, World.heap_drewN] at hzz3); simp only [World.heap_drewN] at hcc3 hff3; have hzl3 := Nat.lt_of_lt_of_le hzl hzz3; clear hx0; have HL := (HD.out.ext HQ2.out).look HS3.out; rw [Hd.out] at HL)
              go_roundw
              case rel => exact ⟨0 + 1, by omega, rfl, Lib.hid (by rw [Tr.take_at HF.out]; exact (HD.out.ext HQ2.out).still H4.out), Lib.hid hx, HO⟩
              case measure => simp [intOf]; omega
        · have y1 : IntKind.i64.wrap ((k : Int) - 1) = (k : Int) - 1 := IntWalk.i64_in _ (by omega)
          have y2 : (0 : Int) ≤ (k : Int) - 1 := by omega
          have y3 : ((k : Int) - 1).toNat = k - 1 := by omega
          have y4 : ((k : Int) - 1) < n := by omega
          have y5 : (0 : Int) < k := by omega
          cases v
          · go_wp2_with (go_at_call 59; refine (HG.out _ EX).mono ?_; rintro e w1 ⟨rfl, hx0⟩; have hy := Ext.trans (a := w) EX hx0; clear hx; have hx := hy; clear hy; have HQ1 := Lib.hid (((Ext.refl wr).alloc _).trans hx0); obtain ⟨hcc, hff⟩ := bcell hx0; have hzz := hx0.size_le; (try simp only [World.size_alloc] at hzz); have hzl := Nat.lt_of_succ_le hzz; clear hx0)
            go_quiet (fail)
            cases hd : Tr.isDir (l.take k) (Tr.parent f.path)
            · have Hd := Lib.hid hd
              clear hd
              go_wp2_with (go_at_call 60; refine (HP.out _).mono ?_; rintro e w3 ⟨rfl, hx0⟩; have hy := Ext.trans (a := w) EX hx0; clear hx; have hx := hy; clear hy; have HQ2 := Lib.hid ((Ext.drewN HQ1.out _).trans hx0); obtain ⟨hcc3, hff3⟩ := bcell hx0; have hzz3 := hx0.size_le; (try simp only [World.size_alloc, World.heap_drewN] at hzz3); simp only [World.heap_drewN] at hcc3 hff3; have hzl3 := Nat.lt_of_lt_of_le hzl hzz3; clear hx0; have HL := (HD.out.ext HQ2.out).look HS3.out; rw [Hd.out] at HL)
              (go_ret; refine Ret.mk ?_ ?_; (focus (rw [← HC.out, Tr.from_none HF.out HE.out HV.out Hd.out]; rfl; done)); (focus (exact EX; done)))
            · have Hd := Lib.hid hd
              clear hd
              have HO : Hid (Tr.checkFrom (l.take (k + 1)) (l.drop (k + 1)) = Tr.checkFrom (l.take 0) (l.drop 0)) := Lib.hid (by rw [Tr.from_on HF.out HE.out HV.out Hd.out, HC.out])
              by_cases h4 : f.ty = 4
              · have H4 := Lib.hid h4
                have h5 : (f.ty == 4) = true := by simpa using h4
                clear h4
                go_wp2_with (go_at_call 60; refine (HP.out _).mono ?_; rintro e w3 ⟨rfl, hx0⟩; have hy := Ext.trans (a := w) EX hx0; clear hx; have hx := hy; clear hy; have HQ2 := Lib.hid ((Ext.drewN HQ1.out _).trans hx0); obtain ⟨hcc3, hff3⟩ := bcell hx0; have hzz3 := hx0.size_le; (try simp only [World.size_alloc, World.heap_drewN] at hzz3); simp only [World.heap_drewN] at hcc3 hff3; have hzl3 := Nat.lt_of_lt_of_le hzl hzz3; clear hx0; have HL := (HD.out.ext HQ2.out).look HS3.out; rw [Hd.out] at HL; obtain ⟨w5, hS, hS2, hS3⟩ := (HD.out.ext HQ2.out).next (by rw [HN.out]; omega) HF.out H4.out HS2.out hx (Nat.le_refl _); have HS5 := Lib.hid (⟨hS2, hS3⟩ : _ ∧ _); clear hS2 hS3)
                go_roundw
                case rel => exact ⟨k + 1, by omega, rfl, Lib.hid HS5.out.1, Lib.hid HS5.out.2, HO⟩
                case measure => simp [intOf]; omega
              · have H4 := Lib.hid h4
                have h5 : (f.ty == 4) = false := by simpa using h4
                clear h4
                go_wp2_with (go_at_call 60; refine (HP.out _).mono ?_; rintro e w3 ⟨rfl, hx0⟩; have hy := Ext.trans (a := w) EX hx0; clear hx; have hx := hy; clear hy; have HQ2 := Lib.hid ((Ext.drewN HQ1.out _).trans hx0); obtain ⟨hcc3, hff3⟩ := bcell hx0; have hzz3 := hx0.size_le; (try simp only [World.size_alloc, World.heap_drewN] at hzz3); simp only [World.heap_drewN] at hcc3 hff3; have hzl3 := Nat.lt_of_lt_of_le hzl hzz3; clear hx0; have HL := (HD.out.ext HQ2.out).look HS3.out; rw [Hd.out] at HL)
                go_roundw
                case rel => exact ⟨k + 1, by omega, rfl, Lib.hid (by rw [Tr.take_at HF.out]; exact (HD.out.ext HQ2.out).still H4.out), Lib.hid hx, HO⟩
                case measure => simp [intOf]; omega
          · go_wp2_with (go_at_call 59; refine (HG.out _ EX).mono ?_; rintro e w1 ⟨rfl, hx0⟩; have hy := Ext.trans (a := w) EX hx0; clear hx; have hx := hy; clear hy; have HQ1 := Lib.hid (((Ext.refl wr).alloc _).trans hx0); obtain ⟨hcc, hff⟩ := bcell hx0; have hzz := hx0.size_le; (try simp only [World.size_alloc] at hzz); have hzl := Nat.lt_of_succ_le hzz; clear hx0)
            go_quiet (fail)
            go_wp2
            (go_ret; refine Ret.mk ?_ ?_; (focus (rw [← HC.out, Tr.from_wrong HF.out HE.out HV.out]; rfl; done)); (focus (exact EX; done)))
      · have HE := Lib.hid he
        have he2 : (Tr.element f != 0) = true := by simpa using he
        clear he
        go_wp2_with (go_at_call 59; refine (HG.out _ EX).mono ?_; rintro e w1 ⟨rfl, hx0⟩; have hy := Ext.trans (a := w) EX hx0; clear hx; have hx := hy; clear hy hx0)
        (go_ret; refine Ret.mk ?_ ?_; (focus (rw [← HC.out, Tr.from_element HF.out HE.out]; rfl; done)); (focus (exact EX; done)))
    · have hkn : k = n := by omega
      subst hkn
      have HZ : Hid (Tr.checkFrom (l.take 0) (l.drop 0) = 0) := Lib.hid (by
        rw [← HC.out, List.drop_eq_nil_of_le (by rw [HN.out]; exact Nat.le_refl _)]
        rfl)
      go_wp2
      (go_ret; refine Ret.mk ?_ ?_; (focus (rw [HZ.out]; rfl; done)); (focus (exact EX; done)))
end Go.Proofs.YtnjcifppkijanaaGreatDoor
