/- Walks: great lists of reviews; the reference's opinions. -/
import Derived.Test.YtojfgidoobgcaaaGreatDoorNj
set_option linter.unusedSimpArgs false
set_option linter.unusedVariables false
namespace Go.Proofs.YtojfgidoobgcaaaGreatDoor
open Go Go.RowKit

theorem greats_snoc {l : List Rv} {k : Nat} {r : Rv} (h : (l.take k).any Rv.great = false) (e : l[k]? = some r) (h0 : r.great = false) : (l.take (k + 1)).any Rv.great = false := by
  rw [List.take_add_one, e, List.any_append, h]
  simp [h0]
set_option maxHeartbeats 8000000 in
set_option maxRecDepth 100000 in
/-- quiltref55.Great. -/
theorem great_any (A : Option Addr) (n c : Nat) (l : List Rv) (w : World) {F : Nat → Prop} (h : Rs w F A l) (hn : l.length = n) (hb : n ≤ 4611686018427387904) (hf : ∀ r ∈ l, r.Wide) :
    Calls Tryz.prog 9 #[.slice A n c] w (Ret (.bool (Vw.great l)) w) := by
  have HV : Hid (Vw.great l = (l.any Rv.great || decide (8 < n))) := Lib.hid (by rw [← hn]; rfl)
  have HL := Lib.hid h
  have HF := Lib.hid hf
  have HN := Lib.hid hn
  clear h hn hf
  generalize Vw.great l = R at HV ⊢
  go_enter Tryz.func9, Tryz.ntmps9
  have hx := Ext.refl w
  go_wp2_with fail
  go_loopw [3] (fun i wr => ∃ k : Nat, k ≤ n ∧ i = .int .i64 k ∧ Ext w wr ∧ Hid ((l.take k).any Rv.great = false)) (fun i wr => n - (intOf i).toNat)
  case atStart => exact ⟨0, Nat.zero_le _, rfl, hx, Lib.hid rfl⟩
  case round =>
    clear hx
    obtain ⟨k, hk, rfl, hx, HO⟩ := hrel
    by_cases hlt : k < n
    · have hkl : k < l.length := by rw [HN.out]; exact hlt
      have e0 : l[k]? = some l[k] := List.getElem?_eq_getElem _
      have fv := HF.out _ (List.mem_of_getElem? e0)
      obtain ⟨b, o, cs, rfl, hbl, _, _, hr, hvt⟩ := (Rs.ext HL.out hx).get e0
      generalize l[k] = r at e0 fv hvt
      obtain ⟨g, hg⟩ : ∃ g, g = r.great := ⟨_, rfl⟩
      have HG := Lib.hid hg
      have HC : Hid (∀ W, Ext wr W → Calls Tryz.prog 19 #[.agg cs.toArray] W (Ret (.bool g) W)) := Lib.hid fun W hW => by rw [hg]; exact greatrev_any cs r W (Rev.steadfast.ext hvt hW) fv
      clear hg
      obtain ⟨A', n', m', B', p', q', rfl, _, _, _, _⟩ := hvt
      obtain ⟨c0, c1, c2, c3, c4, c5⟩ := cells6 hr
      have E0 := Lib.hid e0
      clear hr e0 fv hkl
      go_wp2_with fail
      refine (HC.out _ (Ext.refl wr)).mono ?_
      rintro e w1 ⟨rfl, hx0⟩
      have hx1 := hx.trans hx0
      clear hx
      have hx := hx1
      clear hx1
      cases g
      · have HO2 := Lib.hid (greats_snoc HO.out E0.out HG.out.symm)
        clear HO c0 c1 c2 c3 c4 c5 hx0
        go_wp2_with fail
        go_roundw
        case rel => exact ⟨k + 1, hlt, rfl, hx, HO2⟩
        case measure => simp [intOf]; omega
      · have hv : R = true := by
          rw [HV.out, List.any_eq_true.2 ⟨r, List.mem_of_getElem? E0.out, HG.out.symm⟩]
          rfl
        clear HV c0 c1 c2 c3 c4 c5 hx0
        subst hv
        go_wp2_with fail
        (go_ret; refine Ret.mk ?_ ?_; (focus (rfl; done)); (focus (exact EX; done)))
    · obtain rfl : k = n := by omega
      have hno : l.any Rv.great = false := by
        have := HO.out
        rwa [← HN.out, List.take_length] at this
      have hv : R = decide (8 < k) := by rw [HV.out, hno]; rfl
      clear HV
      by_cases g4 : 8 < k
      · have k4 : decide (8 < (k : Int)) = true := decide_eq_true (by omega)
        rw [decide_eq_true g4] at hv
        subst hv
        go_wp2_with fail
        (go_ret; refine Ret.mk ?_ ?_; (focus (rfl; done)); (focus (exact EX; done)))
      · have k4 : decide (8 < (k : Int)) = false := decide_eq_false (by omega)
        rw [decide_eq_false g4] at hv
        subst hv
        go_wp2_with fail
        (go_ret; refine Ret.mk ?_ ?_; (focus (rfl; done)); (focus (exact EX; done)))

/-! ### Opinions -/
/-- A vote of that person counts. -/
def Vw.says (r : Rv) (who : ByteArray) (v : Vt) : Bool := Qm.eqB v.who who && (!Qm.eqB who r.author && ((v.kind == 1 || v.kind == 2) && decide (v.ids = r.ids)))
def Vw.opStep (r : Rv) (who : ByteArray) (o : Int) (v : Vt) : Int := if Vw.says r who v = true then v.kind else o
theorem opin_fold_aux (r : Rv) (who : ByteArray) : ∀ (l : List Vt) (o : Int), Vw.opinOf who (l.filter (Vw.counts r)) o = l.foldl (Vw.opStep r who) o
  | [], _ => rfl
  | v :: l, o => by
    rw [List.foldl_cons, ← opin_fold_aux r who l]
    by_cases hw : Qm.eqB v.who who = true
    · have he : v.who = who := Qm.eqB_iff.1 hw
      by_cases hc : Vw.counts r v = true
      · have hs : Vw.says r who v = true := by
          unfold Vw.says; unfold Vw.counts at hc
          rw [hw, Bool.true_and, ← he]
          exact hc
        rw [List.filter_cons_of_pos hc]
        unfold Vw.opStep
        rw [if_pos hs]
        conv => lhs; unfold Vw.opinOf
        rw [if_pos hw]
      · have hs : Vw.says r who v = false := by
          unfold Vw.says; unfold Vw.counts at hc
          rw [hw, Bool.true_and, ← he]
          simpa using hc
        rw [List.filter_cons_of_neg hc]
        unfold Vw.opStep
        rw [if_neg (by rw [hs]; decide)]
    · have hs : Vw.says r who v = false := by
        unfold Vw.says
        rw [Bool.eq_false_iff.2 hw, Bool.false_and]
      by_cases hc : Vw.counts r v = true
      · rw [List.filter_cons_of_pos hc]
        unfold Vw.opStep
        rw [if_neg (by rw [hs]; decide)]
        conv => lhs; unfold Vw.opinOf
        rw [if_neg hw]
      · rw [List.filter_cons_of_neg hc]
        unfold Vw.opStep
        rw [if_neg (by rw [hs]; decide)]
theorem opin_fold (r : Rv) (who : ByteArray) : Vw.opin r who = r.votes.foldl (Vw.opStep r who) 0 := opin_fold_aux r who r.votes 0
theorem fold_snoc {r : Rv} {who : ByteArray} {l : List Vt} {k : Nat} {v : Vt} {o : Int} (h : o = (l.take k).foldl (Vw.opStep r who) 0) (e : l[k]? = some v) : Vw.opStep r who o v = (l.take (k + 1)).foldl (Vw.opStep r who) 0 := by
  rw [List.take_add_one, e, List.foldl_append, ← h]
  rfl

set_option maxHeartbeats 8000000 in
set_option maxRecDepth 100000 in
/-- quiltref55.Opinion. -/
theorem opinion_any (c : List Value) (r : Rv) (who : ByteArray) (w : World) {F : Nat → Prop} (h : Rev w F c r) (hf : r.Fits) :
    Calls Tryz.prog 74 #[.agg c.toArray, .string who] w (Ret (.int .i64 (Vw.opin r who)) w) := by
  obtain ⟨A, n, m, B, p, q, rfl, ⟨hn, hm, hd⟩, hp, hpq, hv⟩ := h
  have HVs := Lib.hid hv
  have HD := Lib.hid hd
  have hpb : p ≤ 1000000000 := by rw [← hp]; exact hf.votes
  have hnb : n ≤ 1000000000 := by rw [← hn]; exact hf.ids
  have HP := Lib.hid hp
  have HN := Lib.hid hn
  have HF := Lib.hid hf.each
  have HR : Hid (Vw.opin r who = r.votes.foldl (Vw.opStep r who) 0) := Lib.hid (opin_fold r who)
  generalize Vw.opin r who = R at HR ⊢
  have HS : Hid (∀ v, Vw.says r who v = (Qm.eqB v.who who && (!Qm.eqB who r.author && ((v.kind == 1 || v.kind == 2) && decide (v.ids = r.ids))))) := Lib.hid fun v => rfl
  clear hd hn hm hf hv hp hpq
  go_enter Tryz.func74, Tryz.ntmps74
  have hx := Ext.refl w
  go_wp2_with fail
  go_loopw [5, 6] (fun u i wr => ∃ (k : Nat) (o : Int), k ≤ p ∧ i = .int .i64 k ∧ u = .int .i64 o ∧ Ext w wr ∧ Blk wr w.heap.size 28 #[.int .i64 r.number, .string r.author, .string r.branch, .slice A n m, .int .i64 r.state, .slice B p q] ∧ Hid (o = (r.votes.take k).foldl (Vw.opStep r who) 0)) (fun u i wr => p - (intOf i).toNat)
  case atStart => exact ⟨0, 0, Nat.zero_le _, rfl, rfl, hx.alloc _, Blk.new' rfl, Lib.hid rfl⟩
  case round =>
    clear hx
    obtain ⟨k, o, hk, rfl, rfl, hx, hb0, HO⟩ := hrel
    obtain ⟨hc0, hf0, hl0⟩ := hb0.all
    by_cases hlt : k < p
    · have hkl : k < r.votes.length := by rw [HP.out]; exact hlt
      have e0 : r.votes[k]? = some r.votes[k] := List.getElem?_eq_getElem _
      have fv := HF.out _ (List.mem_of_getElem? e0)
      obtain ⟨b, ob, cs, rfl, hbl, _, _, hr, hvt⟩ := (Vs.ext HVs.out hx).get e0
      generalize r.votes[k] = v at e0 fv hvt
      obtain ⟨A', n', m', rfl, hn', _, hd'⟩ := hvt
      obtain ⟨c0, c1, c2, c3⟩ := cells4 hr
      have E0 := Lib.hid e0
      have HST := Lib.hid (fold_snoc HO.out E0.out)
      have f3 : n' ≤ 1000000000 := by rw [← hn']; exact fv.ids
      obtain ⟨s, hs⟩ : ∃ s, s = decide (v.ids = r.ids) := ⟨_, rfl⟩
      have HC : Hid (∀ W, Ext wr W → Calls Tryz.prog 35 #[.slice A' n' m', .slice A n m] W (Ret (.bool s) W)) := Lib.hid fun W hW => by rw [hs]; exact dsame_any A' A n' m' n m v.ids r.ids W (hd'.ext hW) (HD.out.ext (hx.trans hW)) hn' HN.out f3 hnb
      have HSV : Hid (Vw.says r who v = (Qm.eqB v.who who && (!Qm.eqB who r.author && ((v.kind == 1 || v.kind == 2) && s)))) := Lib.hid (by rw [hs]; exact HS.out v)
      have hb2 := hb0.alloc (.cells #[.string v.who, .int .i64 v.kind, .string v.text, .slice A' n' m'] 39)
      have hx2 := hx.alloc (.cells #[.string v.who, .int .i64 v.kind, .string v.text, .slice A' n' m'] 39)
      have HB2 := Lib.hid hb2
      have HX2 := Lib.hid hx2
      have HXA : Hid (Ext wr (wr.alloc (.cells #[.string v.who, .int .i64 v.kind, .string v.text, .slice A' n' m'] 39))) := Lib.hid ((Ext.refl wr).alloc _)
      have HOP : Hid (∀ x, Vw.says r who v = x → Vw.opStep r who o v = if x = true then v.kind else o) := Lib.hid fun x hx => by unfold Vw.opStep; rw [hx]
      clear hr e0 fv hkl hn' hd' hs hb2 hx2
      generalize v.kind = kd at c1 HSV HOP HB2 HX2 HXA
      cases k1 : Qm.eqB v.who who
      · have j1 : (v.who.toList == who.toList) = false := k1
        have HO2 : Hid (o = (r.votes.take (k + 1)).foldl (Vw.opStep r who) 0) := Lib.hid (by rw [← HST.out, HOP.out false (by rw [HSV.out]; simp only [k1, Bool.false_and, Bool.and_false, Bool.not_true, Bool.true_and, Bool.or_self, Bool.false_or])]; rfl)
        clear HO HST HSV HOP
        go_wp2_with fail
        go_roundw
        case rel => exact ⟨k + 1, o, hlt, rfl, rfl, HX2.out, HB2.out, HO2⟩
        case measure => simp [intOf]; omega
      have j1 : (v.who.toList == who.toList) = true := k1
      cases k2 : Qm.eqB who r.author
      rotate_left
      · have j2 : (who.toList == r.author.toList) = true := k2
        have HO2 : Hid (o = (r.votes.take (k + 1)).foldl (Vw.opStep r who) 0) := Lib.hid (by rw [← HST.out, HOP.out false (by rw [HSV.out]; simp only [k1, k2, Bool.false_and, Bool.and_false, Bool.not_true, Bool.true_and, Bool.or_self, Bool.false_or])]; rfl)
        clear HO HST HSV HOP
        go_wp2_with fail
        go_roundw
        case rel => exact ⟨k + 1, o, hlt, rfl, rfl, HX2.out, HB2.out, HO2⟩
        case measure => simp [intOf]; omega
      have j2 : (who.toList == r.author.toList) = false := k2
      cases k3 : (kd == 1)
      rotate_left
      · obtain rfl : kd = 1 := by simpa using k3
        go_wp2_with fail
        refine (HC.out _ HXA.out).mono ?_
        rintro e w1 ⟨rfl, hx0⟩
        have hx1 := HX2.out.trans hx0
        have hb1 := Blk.ext hx0 HB2.out
        clear hx hb0 hc0 hf0 hl0
        cases s
        · have HO2 : Hid (o = (r.votes.take (k + 1)).foldl (Vw.opStep r who) 0) := Lib.hid (by rw [← HST.out, HOP.out false (by rw [HSV.out]; simp only [Bool.and_false])]; rfl)
          clear HO HST HSV HOP hx0 c0 c1 c2 c3
          go_wp2_with fail
          go_roundw
          case rel => exact ⟨k + 1, o, hlt, rfl, rfl, hx1, hb1, HO2⟩
          case measure => simp [intOf]; omega
        · have HO2 : Hid ((1 : Int) = (r.votes.take (k + 1)).foldl (Vw.opStep r who) 0) := Lib.hid (by rw [← HST.out, HOP.out true (by rw [HSV.out]; simp only [k1, k2, beq_self_eq_true, Bool.true_and, Bool.not_false, Bool.and_true, Bool.true_or, Bool.or_true])]; rfl)
          have hbv := Blk.ext hx0 (Blk.new' (w := wr) (g := wr.heap.size) (cs := #[.string v.who, .int .i64 1, .string v.text, .slice A' n' m']) (t := 39) rfl)
          obtain ⟨hcv, hfv, hlv⟩ := hbv.all
          clear HO HST HSV HOP hx0 c0 c1 c2 c3
          go_wp2_with fail
          go_roundw
          case rel => exact ⟨k + 1, 1, hlt, rfl, rfl, hx1, hb1, HO2⟩
          case measure => simp [intOf]; omega
      cases k4 : (kd == 2)
      · have HO2 : Hid (o = (r.votes.take (k + 1)).foldl (Vw.opStep r who) 0) := Lib.hid (by rw [← HST.out, HOP.out false (by rw [HSV.out]; simp only [k1, k2, k3, k4, Bool.false_and, Bool.and_false, Bool.not_true, Bool.true_and, Bool.or_self, Bool.false_or])]; rfl)
        clear HO HST HSV HOP
        go_wp2_with fail
        go_roundw
        case rel => exact ⟨k + 1, o, hlt, rfl, rfl, HX2.out, HB2.out, HO2⟩
        case measure => simp [intOf]; omega
      · obtain rfl : kd = 2 := by simpa using k4
        go_wp2_with fail
        refine (HC.out _ HXA.out).mono ?_
        rintro e w1 ⟨rfl, hx0⟩
        have hx1 := HX2.out.trans hx0
        have hb1 := Blk.ext hx0 HB2.out
        clear hx hb0 hc0 hf0 hl0
        cases s
        · have HO2 : Hid (o = (r.votes.take (k + 1)).foldl (Vw.opStep r who) 0) := Lib.hid (by rw [← HST.out, HOP.out false (by rw [HSV.out]; simp only [Bool.and_false])]; rfl)
          clear HO HST HSV HOP hx0 c0 c1 c2 c3
          go_wp2_with fail
          go_roundw
          case rel => exact ⟨k + 1, o, hlt, rfl, rfl, hx1, hb1, HO2⟩
          case measure => simp [intOf]; omega
        · have HO2 : Hid ((2 : Int) = (r.votes.take (k + 1)).foldl (Vw.opStep r who) 0) := Lib.hid (by rw [← HST.out, HOP.out true (by rw [HSV.out]; simp only [k1, k2, beq_self_eq_true, Bool.true_and, Bool.not_false, Bool.and_true, Bool.true_or, Bool.or_true])]; rfl)
          have hbv := Blk.ext hx0 (Blk.new' (w := wr) (g := wr.heap.size) (cs := #[.string v.who, .int .i64 2, .string v.text, .slice A' n' m']) (t := 39) rfl)
          obtain ⟨hcv, hfv, hlv⟩ := hbv.all
          clear HO HST HSV HOP hx0 c0 c1 c2 c3
          go_wp2_with fail
          go_roundw
          case rel => exact ⟨k + 1, 2, hlt, rfl, rfl, hx1, hb1, HO2⟩
          case measure => simp [intOf]; omega
    · obtain rfl : k = p := by omega
      have hv : R = o := by
        rw [HR.out, HO.out, ← HP.out, List.take_length]
      clear HR
      subst hv
      go_wp2_with fail
      (go_ret; refine Ret.mk ?_ ?_; (focus (rfl; done)); (focus (exact EX; done)))
end Go.Proofs.YtojfgidoobgcaaaGreatDoor
