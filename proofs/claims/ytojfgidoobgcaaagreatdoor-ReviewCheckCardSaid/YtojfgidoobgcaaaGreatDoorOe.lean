/- Walks: ReviewCheck. -/
import Derived.Test.YtojfgidoobgcaaaGreatDoorOd
import Derived.Test.YtojfgidoobgcaaaGreatDoorNt
set_option linter.unusedSimpArgs false
set_option linter.unusedVariables false
namespace Go.Proofs.YtojfgidoobgcaaaGreatDoor
open Go Go.RowKit

theorem great_false {l : List Rv} (h : Vw.great l = false) : l.length ≤ 8 ∧ ∀ r ∈ l, r.Fits ∧ r.votes.length ≤ 12 := by
  unfold Vw.great at h
  simp only [Bool.or_eq_false_iff, decide_eq_false_iff_not, List.any_eq_false, Bool.not_eq_true] at h
  refine ⟨by omega, fun r hr => ⟨Rv.great_fits (h.1 r hr), ?_⟩⟩
  have h2 := h.1 r hr
  unfold Rv.great at h2
  simp only [Bool.or_eq_false_iff, decide_eq_false_iff_not] at h2
  omega
theorem people_len (r : Rv) (k : Int) : (Vw.people r k).length ≤ r.votes.length := by
  rw [people_fold]
  have : ∀ (l : List Vt) (a : List ByteArray), (l.foldl (Vw.pStep r k) a).length ≤ a.length + l.length := by
    intro l
    induction l with
    | nil => intro a; simp
    | cons v l ih =>
      intro a
      rw [List.foldl_cons, List.length_cons]
      have h1 := ih (Vw.pStep r k a v)
      have h2 : (Vw.pStep r k a v).length ≤ a.length + 1 := by
        unfold Vw.pStep
        split
        · exact ins_len _ _
        · omega
      omega
  simpa using this r.votes []
attribute [local go_sem ↓] Go.wp_at_zero Go.wp_at_succ
set_option maxHeartbeats 16000000 in
set_option maxRecDepth 100000 in
theorem check_walk (A : Option Addr) (n c : Nat) (branch : ByteArray) (l : List Rv) (w : World) (hg : Glob w) (h : Rs w All A l) (hn : l.length = n) (hb : n ≤ 4611686018427387904) (hw : ∀ r ∈ l, r.Wide) :
    Calls Tryz.prog 3 #[.slice A n c, .string branch] w (Ret (.bool true) w) := by
  have HG := Lib.hid hg
  have HL := Lib.hid h
  have HN := Lib.hid hn
  have HGR := Lib.hid (great_any A n c l w h hn hb hw)
  obtain ⟨gr, hgr⟩ : ∃ gr, gr = Vw.great l := ⟨_, rfl⟩
  rw [← hgr] at HGR
  have HE := Lib.hid hgr
  clear h hn hg hw hgr
  go_enter Tryz.func3, Tryz.ntmps3
  have hx := Ext.refl w
  go_wp2_with fail
  refine HGR.out.mono ?_
  rintro e w1 ⟨rfl, hx0⟩
  have HX := Lib.hid (hx.trans hx0)
  clear hx hx0 HGR
  cases gr
  rotate_left
  · go_wp2_with fail
    refine (awake55_any _ (HG.out.ext HX.out)).mono ?_
    rintro e w2 ⟨rfl, hx0⟩
    have HX2 := Lib.hid (HX.out.trans hx0)
    clear hx0
    go_wp2_with fail
    go_ret
    exact Ret.mk rfl HX2.out
  have HGF := Lib.hid (great_false HE.out.symm)
  have hn8 : n ≤ 8 := by have := HGF.out.1; rw [HN.out] at this; exact this
  clear HE
  go_wp2_with fail
  have hx := Ext.refl w1
  go_loopw [12] (fun i wr => ∃ k : Nat, k ≤ n ∧ i = .int .i64 k ∧ Ext w wr) (fun i wr => n - (intOf i).toNat)
  case atStart => exact ⟨0, Nat.zero_le _, rfl, HX.out⟩
  case round =>
    clear hx HX
    obtain ⟨k, hk, rfl, hx⟩ := hrel
    by_cases hlt : k < n
    · have hkl : k < l.length := by rw [HN.out]; exact hlt
      have e0 : l[k]? = some l[k] := List.getElem?_eq_getElem _
      have fv := HGF.out.2 _ (List.mem_of_getElem? e0)
      obtain ⟨b, o, cs, rfl, hbl, _, _, hr, hvt⟩ := (Rs.ext HL.out hx).get e0
      generalize l[k] = r at e0 hvt fv
      have HAP := Lib.hid (fun W (hW : Ext wr W) => approvals_any cs r W (Rev.steadfast.ext hvt hW) fv.1 (by have := fv.2; omega))
      have HRA := Lib.hid (fun W (hW : Ext wr W) => rapprovals_any cs r W (Rev.steadfast.ext hvt hW) fv.1 (by have := fv.2; omega))
      have HPL : Hid ((Vw.people r 1).length ≤ 1152921504606846976) := Lib.hid (by have := people_len r 1; have := fv.2; omega)
      obtain ⟨A', n', m', B', p', q', rfl, _, _, _, _⟩ := hvt
      obtain ⟨c0, c1, c2, c3, c4, c5⟩ := cells6 hr
      have HX := Lib.hid hx
      clear hr e0 fv hkl
      go_upto_region 6 with fail
      clear c0 c1 c2 c3 c4 c5 hx
      have hx0w : Ext wr (wr.alloc (.cells #[.int .i64 r.number, .string r.author, .string r.branch, .slice A' n' m', .int .i64 r.state, .slice B' p' q'] 28)) := (Ext.refl wr).alloc _
      have HBX := Lib.hid (Blk.new' (w := wr) (g := wr.heap.size) (cs := #[.int .i64 r.number, .string r.author, .string r.branch, .slice A' n' m', .int .i64 r.state, .slice B' p' q']) (t := 28) rfl)
      generalize wr.alloc (.cells #[.int .i64 r.number, .string r.author, .string r.branch, .slice A' n' m', .int .i64 r.state, .slice B' p' q'] 28) = w2 at hx0w HBX ⊢
      generalize wr.heap.size = gx at HBX ⊢
      refine wp_region_noPanic (wp_region_held_drew (S := fun w' => Ext w2 w') (by kernel_rfl) (Ext.refl w2).drew1 (fun hv => ?_))
      generalize w2.drew = v0 at hv ⊢
      refine tl (i := 0) [.int .i64 r.number, .string r.author, .string r.branch, .slice A' n' m', .int .i64 r.state, .slice B' p' q'] rfl rfl rfl rfl rfl Tryz.underlying28 rfl (fun _ h => (HBX.out.ext h).range 0 _ (fun j _ => by simp)) hv ?_
      try simp only [Act.put, sA, s0, sS]
      refine tl (i := 2) [.int .i64 r.number, .string r.author, .string r.branch, .slice A' n' m', .int .i64 r.state, .slice B' p' q'] rfl rfl rfl rfl rfl Tryz.underlying28 rfl (fun _ h => (HBX.out.ext h).range 0 _ (fun j _ => by simp)) hv ?_
      try simp only [Act.put, sA, s0, sS]
      refine wpAnyH_one (i := 1) (by kernel_rfl) rfl (by kernel_rfl) ?_
      go_simp
      refine (HAP.out _ (hx0w.trans hv)).mono ?_
      rintro e x1 ⟨P1, d1, rfl, hs1, hx0⟩
      have hv2 := hv.trans hx0
      refine ⟨hv2, ?_⟩
      try simp only [Act.put, sA, s0, sS]
      have HS1 := Lib.hid hs1.1
      have hv := hv2
      clear hv2 hx0 hs1
      refine wpAnyH_one (i := 3) (by kernel_rfl) rfl (by kernel_rfl) ?_
      go_simp
      refine (HRA.out _ (hx0w.trans hv)).mono ?_
      rintro e x3 ⟨P3, d3, rfl, hs3, hx0⟩
      have hv2 := hv.trans hx0
      refine ⟨hv2, ?_⟩
      try simp only [Act.put, sA, s0, sS]
      have HS3 := Lib.hid hs3.1
      have HS1 := Lib.hid (HS1.out.ext hx0)
      have hv := hv2
      clear hv2 hx0 hs3
      refine wpAnyH_one (i := 4) (by kernel_rfl) rfl (by kernel_rfl) ?_
      go_simp
      refine (sequal_any P1 P3 _ d1 _ d3 (Vw.people r 1) (Vw.people r 1) _ HS1.out HS3.out HPL.out HPL.out).mono ?_
      rw [decide_eq_true rfl]
      rintro e x5 ⟨rfl, hx0⟩
      have hv2 := hv.trans hx0
      refine ⟨hv2, ?_⟩
      try simp only [Act.put, sA, s0, sS]
      refine tf (i := 5) (v := .bool false) rfl rfl (fun _ => rfl) hv2 ?_
      try simp only [Act.put, sA, s0, sS]
      refine wpAnyH_done (by kernel_rfl) (NoPanic.normal ?_) _
      have HXE := Lib.hid (hx0w.trans hv2)
      clear hv hv2 hx0 hx0w
      go_wp2_with fail
      go_roundw
      case rel => exact ⟨k + 1, hlt, rfl, HX.out.trans HXE.out⟩
      case measure => simp [intOf]; omega
    · obtain rfl : k = n := by omega
      have HX := Lib.hid hx
      have HF : Hid (∀ r ∈ l, r.Fits) := Lib.hid fun r hr => (HGF.out.2 r hr).1
      clear HGF
      go_wp2_with fail
      refine (ccheck_any A k c l _ (HG.out.ext HX.out) (Rs.ext HL.out HX.out) HN.out (by omega) HF.out).mono ?_
      rintro e w2 ⟨rfl, hx0⟩
      replace HX := Lib.hid (HX.out.trans hx0)
      clear hx hx0
      go_wp2_with fail
      refine (rcheck_any A k c l _ (HG.out.ext HX.out) (Rs.ext HL.out HX.out) HN.out (by omega) HF.out).mono ?_
      rintro e w3 ⟨rfl, hx0⟩
      replace HX := Lib.hid (HX.out.trans hx0)
      clear hx0
      generalize Vw.check l = ck
      go_wp2_with fail
      refine (open_any A k c branch l _ (HG.out.ext HX.out) (Rs.ext HL.out HX.out) HN.out (by omega) HF.out).mono ?_
      rintro e w4 ⟨P, np, cp, rfl, hlp, hsp, hx0⟩
      replace HX := Lib.hid (HX.out.trans hx0)
      have HLP := Lib.hid hlp
      have HSP := Lib.hid hsp
      clear hx0 hlp hsp
      go_wp2_with fail
      refine (ropen_any A k c branch l _ (HG.out.ext HX.out) (Rs.ext HL.out HX.out) HN.out (by omega) HF.out).mono ?_
      rintro e w5 ⟨Q, nq, cq, rfl, hlq, hsq, hx0⟩
      replace HX := Lib.hid (HX.out.trans hx0)
      replace HSP := Lib.hid (Sls.ext Num.steadfast HSP.out hx0)
      have HLQ := Lib.hid hlq
      have HSQ := Lib.hid hsq
      clear hx0 hlq hsq
      go_wp2_with fail
      refine (iequal_true P Q np cp nq cq (Vw.opens l branch) _ HSP.out HSQ.out HLP.out HLQ.out (by
        have h1 := opened_len branch l
        have h2 := HLP.out
        rw [HN.out] at h1
        rw [Vw.opens_eq] at h2
        split at h2
        · simp at h2; omega
        · omega)).mono ?_
      rintro e w6 ⟨rfl, hx0⟩
      replace HX := Lib.hid (HX.out.trans hx0)
      clear hx0 HSP HSQ HLP HLQ
      go_wp2_with fail
      refine (awake55_any _ (HG.out.ext HX.out)).mono ?_
      rintro e w7 ⟨rfl, hx0⟩
      replace HX := Lib.hid (HX.out.trans hx0)
      clear hx0
      go_wp2_with fail
      go_ret
      exact Ret.mk rfl HX.out
end Go.Proofs.YtojfgidoobgcaaaGreatDoor
