/- Walks: the reference's plain trees: file, home, CheckTree. -/
import Derived.Test.YtdbokolbheileaaGreatDoorTi
import Derived.Test.YtdbokolbheileaaGreatDoorYa
import Derived.Test.YtdbokolbheileaaGreatDoorYj
set_option linter.unusedSimpArgs false
set_option linter.unusedVariables false
namespace Go.Proofs.YtdbokolbheileaaGreatDoor
open Go Go.RowKit

theorem parent_eq (s : ByteArray) : Qm.parent s = Tr.parent s := by
  unfold Qm.parent Tr.parent
  split
  · rename_i h
    rw [show (Lib.lastIndexByte s 47).toNat = 0 by omega]
    apply Pa.L_inj
    rw [Pa.L_extract]
    rfl
  · rfl
theorem rtparent_any (s : ByteArray) (w : World) (hs : s.size ≤ 4611686018427387904) : Calls Tryz.prog 56 #[.string s] w (Ret (.string (Tr.parent s)) w) := by
  rw [← parent_eq]
  exact (rparent_same s w hs).mono fun _ _ h => ⟨h.1, by rw [h.2]; exact Ext.refl _⟩

set_option maxHeartbeats 4000000 in
theorem rfile_any (f : Pf) (w : World) : Calls Tryz.prog 33 #[f.v] w (Ret (.int .i64 (Tr.element f)) w) := by
  go_enter Tryz.func33, Tryz.ntmps33
  have hx := Ext.refl w
  go_wp2_with (first | (go_at_call 47; refine (rpath_same _ _).mono ?_; rintro e w1 ⟨rfl, rfl⟩) | (go_at_call 55; refine (rcontent_any _ _ _).mono ?_; rintro e w1 ⟨rfl, hx0⟩; have hy := Ext.trans (a := w) EX hx0; clear hx; have hx := hy; clear hy; have hn0 := BB hx0 (w.heap.size); (first | simp [↓heap_drew_at, ↓heap_drewN_at, ↓heap_alloc_at, ↓heap_set_at, ne_two, ne_three, ne_two_left, ne_three_left, ↓hb0.eq, hb0.lt, hb0.ne] at hn0 | simp [↓heap_drew_at, ↓heap_drewN_at, ↓heap_alloc_at, ↓heap_set_at, ne_two, ne_three, ne_two_left, ne_three_left] at hn0); (try clear hb0 hc0 hf0 hl0); have hb0 := Blk.mk hn0; clear hn0; obtain ⟨hc0, hf0, hl0⟩ := hb0.all; (try clear hx0)))
  all_goals (go_ret; refine Ret.mk ?_ ?_; (focus (refine congrArg (Value.int .i64) ?_; unfold Tr.element; repeat' split; all_goals first | rfl | omega | (simp_all [Qm.eqB]; done) | (simp_all [Qm.eqB]; omega); done)); (focus (exact EX; done)))

namespace Tr
def home (t : List Pf) (s : ByteArray) : Int :=
  if Qm.eqB (parent s) ⟨#[]⟩ then 0
  else match find t (parent s) with
    | none => 7
    | some f => if f.ty = 4 then 0 else 8
theorem home_iff {t : List Pf} {s : ByteArray} (hs : Srt t) : home t s = 0 ↔ isDir t (parent s) = true := by
  unfold home
  rw [isDir_iff]
  by_cases h3 : parent s = ⟨#[]⟩
  · rw [if_pos (Qm.eqB_iff.2 h3)]
    exact ⟨fun _ => .inl h3, fun _ => rfl⟩
  · rw [if_neg (fun k => h3 (Qm.eqB_iff.1 k))]
    constructor
    · intro h
      split at h
      · cases h
      · rename_i f hf
        split at h
        · exact .inr ⟨f, (hs.find.1 hf).1, by assumption, (hs.find.1 hf).2⟩
        · cases h
    · rintro (h2 | ⟨g, hg, k1, k2⟩)
      · exact (h3 h2).elim
      · rw [hs.find.2 ⟨hg, k2⟩]
        simp [k1]
theorem wrong_geq {l : List Pf} {j : Nat} {g : Pf} (h : l[j]? = some g) (f : Pf) : wrong (l.take (j + 1)) f = !lt g.path f.path := by
  rw [wrong_succ h, Bool.eq_iff_iff, Bool.or_eq_true, Qm.eqB_iff, Bool.not_eq_true']
  rcases lt_or g.path f.path with k | k | k
  · rw [k, lt_asymm k]
    simp [(lt_ne k).symm]
  · rw [k, lt_irrefl]
    simp
  · rw [k, lt_asymm k]
    simp
end Tr
theorem Trs.take {w : World} {A : Option Addr} {l : List Pf} (h : Trs w A l) (k : Nat) : Trs w A (l.take k) := fun h0 => by
  rw [List.length_take] at h0
  obtain ⟨b, o, hA, hb, hr⟩ := h (by omega)
  refine ⟨b, o, hA, hb, fun j v hv => hr j v ?_⟩
  have e : fl l = fl (l.take k) ++ fl (l.drop k) := by rw [← fl_append, List.take_append_drop]
  rw [e, List.getElem?_append_left (List.getElem?_eq_some_iff.1 hv).1, hv]

set_option maxHeartbeats 8000000 in
set_option maxRecDepth 100000 in
theorem rhome_any (A : Option Addr) (n c : Nat) (s : ByteArray) (l : List Pf) (w : World) (h : Trs w A l) (hn : l.length = n) (hb : n ≤ 10000000000000) (hs : s.size ≤ 1000000) :
    Calls Tryz.prog 34 #[.slice A n c, .string s] w (Ret (.int .i64 (Tr.home l s)) w) := by
  have HF := Lib.hid (fun u W (hW : Ext w W) => rtfind_any A n c u l W (h.ext hW) hn hb)
  have HP := Lib.hid (fun W => rtparent_any s W (by omega))
  clear h hn
  by_cases h2 : Tr.parent s = ⟨#[]⟩
  · have hv : Tr.home l s = 0 := by unfold Tr.home; rw [if_pos (Qm.eqB_iff.2 h2)]
    rw [hv]
    have H2 := Lib.hid h2
    clear h2 hv
    go_enter Tryz.func34, Tryz.ntmps34
    have hx := Ext.refl w
    go_wp2_with (go_at_call 56; refine (HP.out _).mono ?_; rintro e w1 ⟨rfl, hx0⟩; rw [H2.out]; have hy := Ext.trans (a := w) EX hx0; clear hx; have hx := hy; clear hy hx0)
    (go_ret; refine Ret.mk ?_ ?_; (focus (rfl; done)); (focus (exact EX; done)))
  · have h2' : ((Tr.parent s).toList == []) = false := by
      have := Tr.eqB_ne.2 h2
      unfold Qm.eqB at this
      rwa [show (⟨#[]⟩ : ByteArray).toList = [] from by rw [ByteArray.toList_eq]] at this
    have h2'' : (Tr.parent s).toList.isEmpty = false := by
      cases e : (Tr.parent s).toList.isEmpty
      · rfl
      · rw [List.isEmpty_iff] at e
        rw [e] at h2'
        cases h2'
    cases h3 : Tr.find l (Tr.parent s) with
    | none =>
      have hv : Tr.home l s = 7 := by unfold Tr.home; rw [if_neg (fun k => h2 (Qm.eqB_iff.1 k)), h3]
      rw [hv]
      have H3 := Lib.hid (found_none h3)
      clear h2 h3 hv
      generalize Tr.parent s = u at HP H3 h2' h2''
      go_enter Tryz.func34, Tryz.ntmps34
      have hx := Ext.refl w
      go_wp2_with (first
        | (go_at_call 13; refine (HF.out _ _ EX).mono ?_; rintro e w1 ⟨rfl, hx0⟩; rw [H3.out]; have hy := Ext.trans (a := w) EX hx0; clear hx; have hx := hy; clear hy hx0)
        | (go_at_call 56; refine (HP.out _).mono ?_; rintro e w1 ⟨rfl, hx0⟩; have hy := Ext.trans (a := w) EX hx0; clear hx; have hx := hy; clear hy hx0))
      (go_ret; refine Ret.mk ?_ ?_; (focus (rfl; done)); (focus (exact EX; done)))
    | some f =>
      have hv : Tr.home l s = if f.ty = 4 then 0 else 8 := by unfold Tr.home; rw [if_neg (fun k => h2 (Qm.eqB_iff.1 k)), h3]
      rw [hv]
      have H3 := Lib.hid (found_some h3)
      clear h2 h3 hv
      generalize Tr.parent s = u at HP H3 h2' h2''
      go_enter Tryz.func34, Tryz.ntmps34
      have hx := Ext.refl w
      go_wp2_with (first
        | (go_at_call 13; refine (HF.out _ _ EX).mono ?_; rintro e w1 ⟨rfl, hx0⟩; rw [H3.out]; have hy := Ext.trans (a := w) EX hx0; clear hx; have hx := hy; clear hy hx0)
        | (go_at_call 56; refine (HP.out _).mono ?_; rintro e w1 ⟨rfl, hx0⟩; have hy := Ext.trans (a := w) EX hx0; clear hx; have hx := hy; clear hy hx0))
      all_goals (go_ret; refine Ret.mk ?_ ?_; (focus (simp_all; done)); (focus (exact EX; done)))

theorem take_full {l : List Pf} {n k : Nat} (hn : l.length = n) (hk : k ≤ n) : (l.take k).length = k := by
  rw [List.length_take, hn]
  omega
theorem home_bool {t : List Pf} {s : ByteArray} (hs : Tr.Srt t) : (Tr.home t s != 0) = !Tr.isDir t (Tr.parent s) := by
  cases h : Tr.isDir t (Tr.parent s)
  · have : Tr.home t s ≠ 0 := fun k => by
      rw [(Tr.home_iff hs).1 k] at h
      cases h
    simpa using this
  · rw [(Tr.home_iff hs).2 h]
    rfl

set_option maxHeartbeats 16000000 in
set_option maxRecDepth 100000 in
theorem rchecktree_any (A : Option Addr) (n c : Nat) (l : List Pf) (w : World) (h : Trs w A l) (hn : l.length = n) (hb : n ≤ 10000000000000) (hcap : n ≤ c) :
    Calls Tryz.prog 15 #[.slice A n c] w (Ret (.int .i64 (Tr.checkTree l)) w) := by
  by_cases h200 : 200 < n
  · have hv : Tr.checkTree l = 4 := by unfold Tr.checkTree; rw [if_pos (by omega)]
    rw [hv]
    clear h hn hv
    go_enter Tryz.func15, Tryz.ntmps15
    have hx := Ext.refl w
    go_wp2
    (go_ret; refine Ret.mk ?_ ?_; (focus (rfl; done)); (focus (exact EX; done)))
  have hv : Tr.checkTree l = Tr.checkFrom (l.take 0) (l.drop 0) := by unfold Tr.checkTree; rw [if_neg (by omega)]; rfl
  rw [hv]
  clear hv
  have HQ := Lib.hid h
  have HN := Lib.hid hn
  clear h hn
  go_enter Tryz.func15, Tryz.ntmps15
  have hx := Ext.refl w
  go_wp2
  have HX0 := Lib.hid hx
  clear hx
  go_loopw [3] (fun i wr => ∃ k : Nat, k ≤ n ∧ i = .int .i64 k ∧ Hid (Ext w wr) ∧ Hid (Tr.Srt (l.take k)) ∧ Hid (Tr.checkFrom (l.take k) (l.drop k) = Tr.checkFrom (l.take 0) (l.drop 0))) (fun i wr => n - (intOf i).toNat)
  case atStart => exact ⟨0, Nat.zero_le _, rfl, HX0, Lib.hid Tr.Srt.nil, Lib.hid rfl⟩
  case round =>
    clear HX0
    obtain ⟨k, hk, rfl, HX, HT, HC⟩ := hrel
    have hx := HX.out
    by_cases hlt : k < n
    · have hkl : k < l.length := by rw [HN.out]; exact hlt
      have hf : l[k]? = some (l[k]'hkl) := List.getElem?_eq_getElem hkl
      generalize l[k]'hkl = f at hf
      obtain ⟨b, o, rfl, hbl, c0, c1, c2, c3⟩ := (HQ.out.ext hx).get hf
      have HF := Lib.hid hf
      clear hf hkl
      by_cases he : Tr.element f = 0
      · have HE := Lib.hid he
        have hs : f.path.size ≤ 200 := by
          have := Tr.element_path he
          rw [isPath_pieces, Bool.and_eq_true] at this
          exact of_decide_eq_true this.1
        have HH := Lib.hid (fun W (hW : Ext w W) => rhome_any (some ⟨b, o, none⟩) k c f.path (l.take k) W ((HQ.out.ext hW).take k) (take_full HN.out hk) (by omega) (by omega))
        have hst : ∃ v : Bool, v = Tr.wrong (l.take k) f ∧ (k = 0 ∨ (0 < k ∧ ∃ g : Pf, Hid (l[k - 1]? = some g) ∧ wr.cell? ⟨b, o + (k - 1) * 4, none⟩ = some (.string g.path) ∧ Op.bytesLess g.path.toList f.path.toList = !v)) := by
          refine ⟨_, rfl, ?_⟩
          rcases k with _ | j
          · exact .inl rfl
          · have hj : j < l.length := by rw [HN.out]; omega
            have hg : l[j]? = some (l[j]'hj) := List.getElem?_eq_getElem hj
            obtain ⟨b', o', e', _, d0, _⟩ := (HQ.out.ext HX.out).get hg
            cases e'
            refine .inr ⟨Nat.succ_pos _, _, Lib.hid hg, d0, ?_⟩
            rw [Tr.wrong_geq hg, Bool.not_not]
            rfl
        obtain ⟨v, hv, hst⟩ := hst
        have HV := Lib.hid hv.symm
        have HT2 : Hid (v = false → Tr.Srt (l.take (k + 1))) := Lib.hid (fun e => by
          rw [Tr.take_at HF.out]
          exact (Tr.wrong_iff HT.out).1 (HV.out.trans e))
        clear hv he hs
        have hcut : ∃ d : Bool, d = Tr.isDir (l.take k) (Tr.parent f.path) := ⟨_, rfl⟩
        obtain ⟨dd, hdd⟩ := hcut
        have hdn : (Tr.home (l.take k) f.path != 0) = !dd := by rw [hdd]; exact home_bool HT.out
        have HD := Lib.hid hdd.symm
        have HO : Hid (v = false → dd = true → Tr.checkFrom (l.take (k + 1)) (l.drop (k + 1)) = Tr.checkFrom (l.take 0) (l.drop 0)) := Lib.hid (fun e1 e2 => by rw [Tr.from_on HF.out HE.out (HV.out.trans e1) (HD.out.trans e2), HC.out])
        clear hdd
        generalize Tr.home (l.take k) f.path = r at HH hdn
        rcases hst with rfl | ⟨hk0, g, HGl, d0, hle⟩
        · have hv0 : v = false := by rw [← HV.out]; rfl
          subst hv0
          simp only [Nat.zero_mul, Nat.add_zero] at c0 c1 c2 c3
          cases dd
          · go_wp2_with (go_at_call 33; refine (rfile_any f _).mono ?_; rintro e w1 ⟨rfl, hx0⟩; rw [HE.out]; have hy := Ext.trans (a := w) EX hx0; clear hx; have hx := hy; clear hy; have HQ1 := Lib.hid hx0; obtain ⟨hcc, hff⟩ := bcell hx0; have hzz := hx0.size_le; have hbl1 := Nat.lt_of_lt_of_le hbl hzz; clear hx0)
            go_quiet (fail)
            have HC0 := Lib.hid (fun W (hW : Ext (w1.drewN nq) W) => (hW.cell (p := ⟨b, o, none⟩) (by simpa using hbl1)).trans ((HQ1.out.cell (p := ⟨b, o, none⟩) hbl).trans c0))
            have HC1 := HC0
            have hx2 := Ext.drewN hx nq
            clear hx
            go_wp2_with fail
            refine wp_region_ext (by kernel_rfl) (by kernel_rfl) ?_
            repeat (first | go_big_quiet_skip | (go_big_quiet_want; first | (go_big_quiet_op; go_big_quiet_on) | (apply quiet_at; intro W hW; have hc0 := HC0.out W hW; have hc1 := HC1.out W hW; go_simp; (first | exact rfl | (simp only [Oper.quietUpon, true_and]; first | exact rfl | (go_at_call 34; exact quiet_call hW (HH.out _ (hx2.trans hW)) (fun _ _ h => Ret.bcell h))) | (go_at_call 34; exact quiet_call hW (HH.out _ (hx2.trans hW)) (fun _ _ h => Ret.bcell h))); go_big_quiet_on; simp only [Act.put, sA, s0, sS])))
            refine wpQuiet_nil ?_
            intro w9 hx9
            have hx := hx2.trans hx9
            clear hx2 hx9 HC0 HC1
            go_wp2_with fail
            (go_ret; refine Ret.mk ?_ ?_; (focus (rw [Tr.from_none HF.out HE.out HV.out HD.out]; rfl; done)); (focus (exact EX; done)))
          · go_wp2_with (go_at_call 33; refine (rfile_any f _).mono ?_; rintro e w1 ⟨rfl, hx0⟩; rw [HE.out]; have hy := Ext.trans (a := w) EX hx0; clear hx; have hx := hy; clear hy; have HQ1 := Lib.hid hx0; obtain ⟨hcc, hff⟩ := bcell hx0; have hzz := hx0.size_le; have hbl1 := Nat.lt_of_lt_of_le hbl hzz; clear hx0)
            go_quiet (fail)
            have HC0 := Lib.hid (fun W (hW : Ext (w1.drewN nq) W) => (hW.cell (p := ⟨b, o, none⟩) (by simpa using hbl1)).trans ((HQ1.out.cell (p := ⟨b, o, none⟩) hbl).trans c0))
            have HC1 := HC0
            have hx2 := Ext.drewN hx nq
            clear hx
            go_wp2_with fail
            refine wp_region_ext (by kernel_rfl) (by kernel_rfl) ?_
            repeat (first | go_big_quiet_skip | (go_big_quiet_want; first | (go_big_quiet_op; go_big_quiet_on) | (apply quiet_at; intro W hW; have hc0 := HC0.out W hW; have hc1 := HC1.out W hW; go_simp; (first | exact rfl | (simp only [Oper.quietUpon, true_and]; first | exact rfl | (go_at_call 34; exact quiet_call hW (HH.out _ (hx2.trans hW)) (fun _ _ h => Ret.bcell h))) | (go_at_call 34; exact quiet_call hW (HH.out _ (hx2.trans hW)) (fun _ _ h => Ret.bcell h))); go_big_quiet_on; simp only [Act.put, sA, s0, sS])))
            refine wpQuiet_nil ?_
            intro w9 hx9
            have hx := hx2.trans hx9
            clear hx2 hx9 HC0 HC1
            go_wp2_with fail
            go_roundw
            case rel => exact ⟨0 + 1, by omega, rfl, Lib.hid hx, Lib.hid (HT2.out (by trivial)), Lib.hid (HO.out (by trivial) (by trivial))⟩
            case measure => simp [intOf]; omega
        · have y1 : IntKind.i64.wrap ((k : Int) - 1) = (k : Int) - 1 := IntWalk.i64_in _ (by omega)
          have y2 : (0 : Int) ≤ (k : Int) - 1 := by omega
          have y3 : ((k : Int) - 1).toNat = k - 1 := by omega
          have y4 : ((k : Int) - 1) < n := by omega
          have y5 : (0 : Int) < k := by omega
          have y6 : (k : Int) ≤ c := by omega
          have y7 : k ≤ c := by omega
          cases v
          · cases dd
            · go_wp2_with (go_at_call 33; refine (rfile_any f _).mono ?_; rintro e w1 ⟨rfl, hx0⟩; rw [HE.out]; have hy := Ext.trans (a := w) EX hx0; clear hx; have hx := hy; clear hy; have HQ1 := Lib.hid hx0; obtain ⟨hcc, hff⟩ := bcell hx0; have hzz := hx0.size_le; have hbl1 := Nat.lt_of_lt_of_le hbl hzz; clear hx0)
              go_quiet (fail)
              have HC0 := Lib.hid (fun W (hW : Ext (w1.drewN nq) W) => (hW.cell (p := ⟨b, o + k * 4, none⟩) (by simpa using hbl1)).trans ((HQ1.out.cell (p := ⟨b, o + k * 4, none⟩) hbl).trans c0))
              have HC1 := HC0
              have hx2 := Ext.drewN hx nq
              clear hx
              go_wp2_with fail
              refine wp_region_ext (by kernel_rfl) (by kernel_rfl) ?_
              repeat (first | go_big_quiet_skip | (go_big_quiet_want; first | (go_big_quiet_op; go_big_quiet_on) | (apply quiet_at; intro W hW; have hc0 := HC0.out W hW; have hc1 := HC1.out W hW; go_simp; (first | exact rfl | (simp only [Oper.quietUpon, true_and]; first | exact rfl | (go_at_call 34; exact quiet_call hW (HH.out _ (hx2.trans hW)) (fun _ _ h => Ret.bcell h))) | (go_at_call 34; exact quiet_call hW (HH.out _ (hx2.trans hW)) (fun _ _ h => Ret.bcell h))); go_big_quiet_on; simp only [Act.put, sA, s0, sS])))
              refine wpQuiet_nil ?_
              intro w9 hx9
              have hx := hx2.trans hx9
              clear hx2 hx9 HC0 HC1
              go_wp2_with fail
              (go_ret; refine Ret.mk ?_ ?_; (focus (rw [← HC.out, Tr.from_none HF.out HE.out HV.out HD.out]; rfl; done)); (focus (exact EX; done)))
            · go_wp2_with (go_at_call 33; refine (rfile_any f _).mono ?_; rintro e w1 ⟨rfl, hx0⟩; rw [HE.out]; have hy := Ext.trans (a := w) EX hx0; clear hx; have hx := hy; clear hy; have HQ1 := Lib.hid hx0; obtain ⟨hcc, hff⟩ := bcell hx0; have hzz := hx0.size_le; have hbl1 := Nat.lt_of_lt_of_le hbl hzz; clear hx0)
              go_quiet (fail)
              have HC0 := Lib.hid (fun W (hW : Ext (w1.drewN nq) W) => (hW.cell (p := ⟨b, o + k * 4, none⟩) (by simpa using hbl1)).trans ((HQ1.out.cell (p := ⟨b, o + k * 4, none⟩) hbl).trans c0))
              have HC1 := HC0
              have hx2 := Ext.drewN hx nq
              clear hx
              go_wp2_with fail
              refine wp_region_ext (by kernel_rfl) (by kernel_rfl) ?_
              repeat (first | go_big_quiet_skip | (go_big_quiet_want; first | (go_big_quiet_op; go_big_quiet_on) | (apply quiet_at; intro W hW; have hc0 := HC0.out W hW; have hc1 := HC1.out W hW; go_simp; (first | exact rfl | (simp only [Oper.quietUpon, true_and]; first | exact rfl | (go_at_call 34; exact quiet_call hW (HH.out _ (hx2.trans hW)) (fun _ _ h => Ret.bcell h))) | (go_at_call 34; exact quiet_call hW (HH.out _ (hx2.trans hW)) (fun _ _ h => Ret.bcell h))); go_big_quiet_on; simp only [Act.put, sA, s0, sS])))
              refine wpQuiet_nil ?_
              intro w9 hx9
              have hx := hx2.trans hx9
              clear hx2 hx9 HC0 HC1
              go_wp2_with fail
              go_roundw
              case rel => exact ⟨k + 1, by omega, rfl, Lib.hid hx, Lib.hid (HT2.out (by trivial)), Lib.hid (HO.out (by trivial) (by trivial))⟩
              case measure => simp [intOf]; omega
          · go_wp2_with (go_at_call 33; refine (rfile_any f _).mono ?_; rintro e w1 ⟨rfl, hx0⟩; rw [HE.out]; have hy := Ext.trans (a := w) EX hx0; clear hx; have hx := hy; clear hy; have HQ1 := Lib.hid hx0; obtain ⟨hcc, hff⟩ := bcell hx0; have hzz := hx0.size_le; have hbl1 := Nat.lt_of_lt_of_le hbl hzz; clear hx0)
            go_quiet (fail)
            go_wp2
            (go_ret; refine Ret.mk ?_ ?_; (focus (rw [← HC.out, Tr.from_wrong HF.out HE.out HV.out]; rfl; done)); (focus (exact EX; done)))
      · have HE := Lib.hid he
        have he2 : (Tr.element f != 0) = true := by simpa using he
        clear he
        go_wp2_with (go_at_call 33; refine (rfile_any f _).mono ?_; rintro e w1 ⟨rfl, hx0⟩; have hy := Ext.trans (a := w) EX hx0; clear hx; have hx := hy; clear hy hx0)
        (go_ret; refine Ret.mk ?_ ?_; (focus (rw [← HC.out, Tr.from_element HF.out HE.out]; rfl; done)); (focus (exact EX; done)))
    · have hkn : k = n := by omega
      subst hkn
      have HZ : Hid (Tr.checkFrom (l.take 0) (l.drop 0) = 0) := Lib.hid (by
        rw [← HC.out, List.drop_eq_nil_of_le (by rw [HN.out]; exact Nat.le_refl _)]
        rfl)
      go_wp2
      (go_ret; refine Ret.mk ?_ ?_; (focus (rw [HZ.out]; rfl; done)); (focus (exact EX; done)))
end Go.Proofs.YtdbokolbheileaaGreatDoor
