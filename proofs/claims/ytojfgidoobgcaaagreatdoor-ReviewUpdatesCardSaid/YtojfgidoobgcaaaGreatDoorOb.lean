/- Walks: review.Propose. -/
import Derived.Test.YtojfgidoobgcaaaGreatDoorOa
set_option linter.unusedSimpArgs false
set_option linter.unusedVariables false
namespace Go.Proofs.YtojfgidoobgcaaaGreatDoor
open Go Go.RowKit

theorem rinfo : ∃ (i : TypeInfo) (z : Value), Tryz.prog.info? 28 = some i ∧ i.zero = some z ∧ i.size = 6 ∧ i.bytes = 96 ∧ z.cells.size = 6 := by
  have h := rclone_info
  cases hq : Tryz.prog.info? 28 with
  | none => rw [hq] at h; cases h
  | some i =>
    rw [hq] at h
    simp only [Option.map_some, Option.some.injEq, Prod.mk.injEq] at h
    obtain ⟨h1, h2, h3⟩ := h
    cases hz : i.zero with
    | none => rw [hz] at h3; cases h3
    | some z => rw [hz] at h3; exact ⟨i, z, rfl, hz, h1, h2, by simpa using h3⟩
/-- Reviews, a number and an error. -/
def GivesN (w : World) (R : List Rv × Int × Int) (e : Ending) (w' : World) : Prop := ∃ A n c, e = .returned (.tuple #[.slice A n c, .int .i64 R.2.1, .int .i64 R.2.2]) ∧ Revs w' A n c R.1 ∧ Ext w w'
def Vw.likes (branch : ByteArray) (d : List Dg) (r : Rv) : Bool := Qm.eqB r.branch branch && (!Vw.ended r && decide (r.ids = d))
set_option maxHeartbeats 8000000 in
set_option maxRecDepth 100000 in
/-- review.Propose's closure. -/
theorem prop1_any (branch : ByteArray) (d : List Dg) (gb gi : Nat) (B : Option Addr) (p q : Nat) (w0 w : World) (hw : Ext w0 w) (hbb : Blk w0 gb 9 #[.string branch]) (hbi : Blk w0 gi 25 #[.slice B p q])
    (hd : Ds w0 All B d) (hp : d.length = p) (hpb : p ≤ 1000000000) (c : List Value) (r : Rv) (hr : Rev w All c r) (hf : r.Fits) :
    Calls Tryz.prog 64 #[.agg c.toArray, .pointer (some ⟨gb, 0, none⟩), .pointer (some ⟨gi, 0, none⟩)] w (Ret (.bool (Vw.likes branch d r)) w) := by
  have HEN : Hid (∀ W, Ext w W → Calls Tryz.prog 47 #[.agg c.toArray] W (Ret (.bool (Vw.ended r)) W)) := Lib.hid fun W hW => cended_any c r W (Rev.steadfast.ext hr hW)
  obtain ⟨A', n', m', B', p', q', rfl, ⟨hn', hm', hids⟩, z2, z3⟩ := hr
  clear z2 z3
  have hnb : n' ≤ 1000000000 := by rw [← hn']; exact hf.ids
  obtain ⟨s, hs⟩ : ∃ s, s = decide (r.ids = d) := ⟨_, rfl⟩
  have HEQ : Hid (∀ W, Ext w W → Calls Tryz.prog 65 #[.slice A' n' m', .slice B p q] W (Ret (.bool s) W)) := Lib.hid fun W hW => by rw [hs]; exact dequal_any A' B n' m' p q r.ids d W (Ds.ext hids hW) (Ds.ext hd (hw.trans hW)) hn' hp hnb hpb
  have HU : Hid (Vw.likes branch d r = (Qm.eqB r.branch branch && (!Vw.ended r && s))) := Lib.hid (by rw [hs]; rfl)
  generalize Vw.likes branch d r = R at HU ⊢
  obtain ⟨hcb, hfb, hlb⟩ := (Blk.ext hw hbb).all
  obtain ⟨hci, hfi, hli⟩ := (Blk.ext hw hbi).all
  have HBI := Lib.hid (Blk.ext hw hbi)
  clear hs hids hd hp hf hn' hm' hbb hbi
  go_enter Tryz.func64, Tryz.ntmps64
  have hx := Ext.refl w
  cases hq : Qm.eqB r.branch branch
  · have hj : (r.branch.toList == branch.toList) = false := hq
    have hv : R = false := by rw [HU.out, hq]; rfl
    clear HU hq HEN HEQ HBI
    subst hv
    go_wp2_with fail
    (go_ret; refine Ret.mk ?_ ?_; (focus (rfl; done)); (focus (exact EX; done)))
  have hj : (r.branch.toList == branch.toList) = true := hq
  have HV : Hid (R = (!Vw.ended r && s)) := Lib.hid (by rw [HU.out, hq]; rfl)
  clear HU hq
  generalize Vw.ended r = en at HV HEN
  go_wp2_with fail
  refine (HEN.out _ (hx.alloc _)).mono ?_
  rintro e w1 ⟨rfl, hx0⟩
  have hb0 := Blk.ext hx0 (Blk.new' (w := w) (g := w.heap.size) (cs := #[.int .i64 r.number, .string r.author, .string r.branch, .slice A' n' m', .int .i64 r.state, .slice B' p' q']) (t := 28) rfl)
  have HX1 := Lib.hid ((hx.alloc (.cells #[.int .i64 r.number, .string r.author, .string r.branch, .slice A' n' m', .int .i64 r.state, .slice B' p' q'] 28)).trans hx0)
  have HBI1 := Lib.hid (HBI.out.ext HX1.out)
  obtain ⟨hc0, hf0, hl0⟩ := hb0.all
  obtain ⟨hc1, hf1, hl1⟩ := HBI1.out.all
  clear hx hx0 hcb hfb hlb hci hfi hli HEN HBI
  cases en
  rotate_left
  · have hv : R = false := by rw [HV.out]; rfl
    clear HV HEQ
    subst hv
    go_wp2_with fail
    go_ret
    exact Ret.mk rfl HX1.out
  have hv : R = s := by rw [HV.out]; rfl
  clear HV
  subst hv
  go_wp2_with fail
  refine (HEQ.out _ HX1.out).mono ?_
  rintro e w2 ⟨rfl, hx2⟩
  have HX2 := Lib.hid (HX1.out.trans hx2)
  clear hx2 hc0 hf0 hl0 hc1 hf1 hl1 HEQ
  go_wp2_with fail
  go_ret
  exact Ret.mk rfl HX2.out
theorem Vw.propose_eq (l : List Rv) (author branch : ByteArray) (d : List Dg) : Vw.propose l author branch d = if Vw.check l ≠ 0 then ([], 0, Vw.check l)
  else if Qm.isName author = false ∨ Qm.isName branch = false then ([], 0, 5)
  else if Vw.ids d ≠ 0 then ([], 0, Vw.ids d)
  else if l.any (Vw.likes branch d) = true then ([], 0, 6)
  else if l.length = 100 then ([], 0, 4)
  else (l ++ [⟨(l.length : Int) + 1, author, branch, d, 1, []⟩], (l.length : Int) + 1, 0) := rfl
set_option maxHeartbeats 16000000 in
set_option maxRecDepth 100000 in
/-- review.Propose. -/
theorem propose_any (A : Option Addr) (n c : Nat) (author branch : ByteArray) (B : Option Addr) (p q : Nat) (l : List Rv) (d : List Dg) (w : World) (hg : Glob w) (h : Rs w All A l) (hn : l.length = n) (hb : n ≤ 1000000000) (hf : ∀ r ∈ l, r.Fits) (ha : author.size ≤ 1000000000) (hbr : branch.size ≤ 1000000000) (hd : Ds w All B d) (hp : d.length = p) (hpq : p ≤ q) (hpb : p ≤ 1000000000) :
    Calls Tryz.prog 40 #[.slice A n c, .string author, .string branch, .slice B p q] w (GivesN w (Vw.propose l author branch d)) := by
  have HC : Hid (∀ W, Ext w W → Calls Tryz.prog 14 #[.slice A n c] W (Ret (.int .i64 (Vw.check l)) W)) := Lib.hid fun W hW => ccheck_any A n c l W (hg.ext hW) (Rs.ext h hW) hn hb hf
  have HNA : Hid (∀ W, Ext w W → Calls Tryz.prog 66 #[.string author] W (Ret (.bool (Qm.isName author)) W)) := Lib.hid fun W hW => vname_any author W (hg.ext hW) ha
  have HNB : Hid (∀ W, Ext w W → Calls Tryz.prog 66 #[.string branch] W (Ret (.bool (Qm.isName branch)) W)) := Lib.hid fun W hW => vname_any branch W (hg.ext hW) hbr
  have HI : Hid (∀ W, Ext w W → Calls Tryz.prog 61 #[.slice B p q] W (Ret (.int .i64 (Vw.ids d)) W)) := Lib.hid fun W hW => vids_any B p q d W (Ds.ext hd hW) hp hpb
  have HCT : Hid (∀ (W : World) (gb gi : Nat), Ext w W → Blk W gb 9 #[.string branch] → Blk W gi 25 #[.slice B p q] → Calls Tryz.prog 67 #[.slice A n c, .func (.func 64) #[] #[.pointer (some ⟨gb, 0, none⟩), .pointer (some ⟨gi, 0, none⟩)]] W (Ret (.bool (l.any (Vw.likes branch d))) W)) :=
    Lib.hid fun W gb gi hW b1 b2 => containsR_any Rv.Fits (Vw.likes branch d) 64 _ (enters_of Tryz.func64 (by kernel_rfl) rfl) A n c l W (Rs.ext h hW) hn hb hf fun W' cs r hx hr _ hrf =>
      prop1_any branch d gb gi B p q W W' hx b1 b2 (Ds.ext hd hW) hp hpb cs r (Rev.steadfast.ext hr hx) hrf
  have HCLONE : Hid (∀ W0, Ext w W0 → ∀ W, Ext W0 W → Calls Tryz.prog 68 #[.slice A n c] W (fun e w' => ∃ v', e = .returned v' ∧ OwnW 6 Rev 28 W0 w' W.heap.size All v' l ∧ Ext W w')) := Lib.hid fun W0 h0 W hW => rclone_any A n c l W0 W (Rs.ext h h0) hW hn hb
  have HVT0 : Hid (∀ W, Ext w W → Rev W All [.int .i64 ((n : Int) + 1), .string author, .string branch, .slice B p q, .int .i64 1, .slice none 0 0] ⟨(n : Int) + 1, author, branch, d, 1, []⟩) := Lib.hid fun W hW => ⟨B, p, q, none, 0, 0, rfl, ⟨hp, hpq, Ds.ext hd hW⟩, rfl, Nat.le_refl _, Sls.nil 4 Vot W All⟩
  have HN := Lib.hid hn
  have HU := Lib.hid (Vw.propose_eq l author branch d)
  rw [hn] at HU
  generalize Vw.propose l author branch d = R at HU ⊢
  generalize Vw.check l = KK at HU HC
  generalize hE : Vw.ids d = E at HU HI
  generalize Qm.isName author = na at HU HNA
  generalize Qm.isName branch = nb at HU HNB
  generalize l.any (Vw.likes branch d) = an at HU HCT
  clear h hn hf hg hd hp hpq ha hbr hE
  go_enter Tryz.func40, Tryz.ntmps40
  have hx := Ext.refl w
  go_wp2_with fail
  refine (HC.out _ ((hx.alloc _).alloc _)).mono ?_
  rintro e w1 ⟨rfl, hx0⟩
  have hb0 := Blk.ext hx0 (Blk.alloc (Blk.new' (w := w) (g := w.heap.size) (cs := #[.string branch]) (t := 9) rfl) (.cells #[.slice B p q] 25))
  have hb1 := Blk.ext hx0 (Blk.new' (w := w.alloc (.cells #[.string branch] 9)) (g := w.heap.size + 1) (cs := #[.slice B p q]) (t := 25) (by simp))
  have HX1 := Lib.hid (((hx.alloc _).alloc _).trans hx0)
  have HB0 := Lib.hid hb0
  have HB1 := Lib.hid hb1
  obtain ⟨hc0, hf0, hl0⟩ := hb0.all
  obtain ⟨hc1, hf1, hl1⟩ := hb1.all
  clear hx hx0 HC hb0 hb1
  by_cases h0 : KK = 0
  rotate_left
  · have hk0 : (KK == 0) = false := by simpa using h0
    have hv : R = ([], 0, KK) := by rw [HU.out, if_pos h0]
    clear HU h0
    subst hv
    go_wp2_with fail
    refine bodyPost_ret (v := .tuple #[.slice none 0 0, .int .i64 0, .int .i64 KK]) ?_ rfl ?_
    · simp only [results, Tryz.results40]
      go_simp
    · exact ⟨none, 0, 0, rfl, Revs.nil _, HX1.out⟩
  subst h0
  go_wp2_with fail
  refine (HNA.out _ HX1.out).mono ?_
  rintro e w2 ⟨rfl, hx0⟩
  replace HX1 := Lib.hid (HX1.out.trans hx0)
  replace HB0 := Lib.hid (HB0.out.ext hx0)
  replace HB1 := Lib.hid (HB1.out.ext hx0)
  clear hx0 hc0 hf0 hl0 hc1 hf1 hl1
  obtain ⟨hc0, hf0, hl0⟩ := HB0.out.all
  obtain ⟨hc1, hf1, hl1⟩ := HB1.out.all
  cases na
  · have hv : R = ([], 0, 5) := by rw [HU.out, if_neg (by simp), if_pos (.inl rfl)]
    clear HU
    subst hv
    go_wp2_with fail
    refine bodyPost_ret (v := .tuple #[.slice none 0 0, .int .i64 0, .int .i64 5]) ?_ rfl ?_
    · simp only [results, Tryz.results40]
      go_simp
    · exact ⟨none, 0, 0, rfl, Revs.nil _, HX1.out⟩
  go_wp2_with fail
  refine (HNB.out _ HX1.out).mono ?_
  rintro e w3 ⟨rfl, hx0⟩
  replace HX1 := Lib.hid (HX1.out.trans hx0)
  replace HB0 := Lib.hid (HB0.out.ext hx0)
  replace HB1 := Lib.hid (HB1.out.ext hx0)
  clear hx0 hc0 hf0 hl0 hc1 hf1 hl1
  obtain ⟨hc0, hf0, hl0⟩ := HB0.out.all
  obtain ⟨hc1, hf1, hl1⟩ := HB1.out.all
  cases nb
  · have hv : R = ([], 0, 5) := by rw [HU.out, if_neg (by simp), if_pos (.inr rfl)]
    clear HU
    subst hv
    go_wp2_with fail
    refine bodyPost_ret (v := .tuple #[.slice none 0 0, .int .i64 0, .int .i64 5]) ?_ rfl ?_
    · simp only [results, Tryz.results40]
      go_simp
    · exact ⟨none, 0, 0, rfl, Revs.nil _, HX1.out⟩
  go_wp2_with fail
  refine (HI.out _ HX1.out).mono ?_
  rintro e w4 ⟨rfl, hx0⟩
  replace HX1 := Lib.hid (HX1.out.trans hx0)
  replace HB0 := Lib.hid (HB0.out.ext hx0)
  replace HB1 := Lib.hid (HB1.out.ext hx0)
  clear hx0 hc0 hf0 hl0 hc1 hf1 hl1
  obtain ⟨hc0, hf0, hl0⟩ := HB0.out.all
  obtain ⟨hc1, hf1, hl1⟩ := HB1.out.all
  by_cases h0 : E = 0
  rotate_left
  · have hk0 : (E == 0) = false := by simpa using h0
    have hv : R = ([], 0, E) := by rw [HU.out, if_neg (by simp), if_neg (by simp), if_pos h0]
    clear HU h0
    subst hv
    go_wp2_with fail
    refine (HI.out _ HX1.out).mono ?_
    rintro e w5 ⟨rfl, hx0⟩
    replace HX1 := Lib.hid (HX1.out.trans hx0)
    replace HB0 := Lib.hid (HB0.out.ext hx0)
    replace HB1 := Lib.hid (HB1.out.ext hx0)
    clear hx0 hc0 hf0 hl0 hc1 hf1 hl1
    obtain ⟨hc0, hf0, hl0⟩ := HB0.out.all
    obtain ⟨hc1, hf1, hl1⟩ := HB1.out.all
    go_wp2_with fail
    refine bodyPost_ret (v := .tuple #[.slice none 0 0, .int .i64 0, .int .i64 E]) ?_ rfl ?_
    · simp only [results, Tryz.results40]
      go_simp
    · exact ⟨none, 0, 0, rfl, Revs.nil _, HX1.out⟩
  subst h0
  have HT := Lib.hid (HCT.out _ _ _ HX1.out HB0.out HB1.out)
  clear HI HNA HNB HCT
  go_wp2_with fail
  refine HT.out.mono ?_
  rintro e w5 ⟨rfl, hx0⟩
  replace HX1 := Lib.hid (HX1.out.trans hx0)
  replace HB0 := Lib.hid (HB0.out.ext hx0)
  replace HB1 := Lib.hid (HB1.out.ext hx0)
  clear hx0 hc0 hf0 hl0 hc1 hf1 hl1
  obtain ⟨hc0, hf0, hl0⟩ := HB0.out.all
  obtain ⟨hc1, hf1, hl1⟩ := HB1.out.all
  cases an
  rotate_left
  · have hv : R = ([], 0, 6) := by rw [HU.out, if_neg (by simp), if_neg (by simp), if_neg (by simp), if_pos rfl]
    clear HU
    subst hv
    go_wp2_with fail
    refine bodyPost_ret (v := .tuple #[.slice none 0 0, .int .i64 0, .int .i64 6]) ?_ rfl ?_
    · simp only [results, Tryz.results40]
      go_simp
    · exact ⟨none, 0, 0, rfl, Revs.nil _, HX1.out⟩
  by_cases h1 : n = 100
  · have hv : R = ([], 0, 4) := by rw [HU.out, if_neg (by simp), if_neg (by simp), if_neg (by simp), if_neg (by simp), if_pos h1]
    clear HU
    subst hv
    subst h1
    go_wp2_with fail
    refine bodyPost_ret (v := .tuple #[.slice none 0 0, .int .i64 0, .int .i64 4]) ?_ rfl ?_
    · simp only [results, Tryz.results40]
      go_simp
    · exact ⟨none, 0, 0, rfl, Revs.nil _, HX1.out⟩
  have hk1 : ((n : Int) == 100) = false := by simp; omega
  have hv : R = (l ++ [⟨(n : Int) + 1, author, branch, d, 1, []⟩], (n : Int) + 1, 0) := by rw [HU.out, if_neg (by simp), if_neg (by simp), if_neg (by simp), if_neg (by simp), if_neg h1]
  clear HU h1 HT
  subst hv
  have HCL := Lib.hid (HCLONE.out _ HX1.out)
  have HVT := Lib.hid (HVT0.out _ HX1.out)
  clear HCLONE HVT0
  obtain ⟨i0, z0, hi0, hz0, hs0, hby0, hzk0⟩ := rinfo
  have HI0 := Lib.hid hi0
  have HZ0 := Lib.hid hz0
  clear hi0 hz0
  go_upto_region 15 with fail
  clear hc0 hf0 hl0 hc1 hf1 hl1 hk1
  generalize w5 = w1 at HCL HVT HX1 HB0 HB1 ⊢
  refine wp_region_noPanic (wp_region_held_drew (S := fun w' => Ext w1 w') (by kernel_rfl) (Ext.refl w1).drew1 (fun hv => ?_))
  generalize w1.drew = v0 at hv ⊢
  refine tf (i := 0) (v := .slice A n c) rfl rfl (fun _ => rfl) hv ?_
  try simp only [Act.put, sA, s0, sS]
  refine tf (i := 2) (v := .int .i64 ((n : Int) + 1)) rfl rfl (fun _ => rfl) hv ?_
  try simp only [Act.put, sA, s0, sS]
  refine tf (i := 3) (v := .string author) rfl rfl (fun _ => rfl) hv ?_
  try simp only [Act.put, sA, s0, sS]
  refine take_any (i := 4) (v := .string branch) rfl rfl (by kernel_rfl) (by kernel_rfl) (by kernel_rfl) (.inl ⟨(by kernel_rfl), fun W' hW' => ?f4⟩) hv ?_
  case f4 =>
    have hcx := (HB0.out.ext hW').cell
    go_simp
  try simp only [Act.put, sA, s0, sS]
  refine take_any (i := 5) (v := .slice B p q) rfl rfl (by kernel_rfl) (by kernel_rfl) (by kernel_rfl) (.inl ⟨(by kernel_rfl), fun W' hW' => ?f5⟩) hv ?_
  case f5 =>
    have hcx := (HB1.out.ext hW').cell
    go_simp
  try simp only [Act.put, sA, s0, sS]
  refine take_any (i := 6) (v := .agg #[.int .i64 ((n : Int) + 1), .string author, .string branch, .slice B p q, .int .i64 1, .slice none 0 0]) rfl rfl (by kernel_rfl) (by kernel_rfl) (by kernel_rfl) (.inl ⟨(by kernel_rfl), fun W' hW' => ?f6⟩) hv ?_
  case f6 => go_simp
  try simp only [Act.put, sA, s0, sS]
  refine tf (i := 9) (v := .int .i64 ((n : Int) + 1)) rfl rfl (fun _ => rfl) hv ?_
  try simp only [Act.put, sA, s0, sS]
  have hi0 := HI0.out
  have hz0 := HZ0.out
  refine wpAnyH_ready (rs := [1, 7]) (by kernel_rfl) (by simp) ?_
  refine (AllReadyH.cons rfl (fun K hK => ?_) (AllReadyH.cons rfl (fun K hK => ?_) AllReadyH.nil))
  · go_simp
    refine (HCL.out v0 hv).mono ?_
    rintro e vc ⟨v', rfl, hown, hx0⟩
    have hwb : w.heap.size ≤ v0.heap.size := (HX1.out.trans hv).size_le
    have hwb1 : w1.heap.size ≤ v0.heap.size := hv.size_le
    have hbs : v0.heap.size ≤ vc.heap.size := hx0.size_le
    generalize v0.heap.size = base at hown hwb hwb1 hbs
    have hv2 := hv.trans hx0
    refine hK.out _ _ (hv2) (fun _ => ?_)
    clear hK
    try simp only [Act.put, sA, s0, sS]
    have HO := Lib.hid hown
    have hv := hv2
    clear hv2 hx0 hown
    refine wpAnyH_one (i := 7) (by kernel_rfl) rfl (by kernel_rfl) ?_
    go_simp
    refine ⟨hv.alloc _, ?_⟩
    try simp only [Act.put, sA, s0, sS]
    have hx0 : Ext vc (vc.alloc (.cells #[.int .i64 ((n : Int) + 1), .string author, .string branch, .slice B p q, .int .i64 1, .slice none 0 0] 28)) := (Ext.refl vc).alloc _
    have hl : Blk (vc.alloc (.cells #[.int .i64 ((n : Int) + 1), .string author, .string branch, .slice B p q, .int .i64 1, .slice none 0 0] 28)) vc.heap.size 28 #[.int .i64 ((n : Int) + 1), .string author, .string branch, .slice B p q, .int .i64 1, .slice none 0 0] := Blk.new' rfl
    generalize vc.alloc (.cells #[.int .i64 ((n : Int) + 1), .string author, .string branch, .slice B p q, .int .i64 1, .slice none 0 0] 28) = vl at hx0 hl ⊢
    generalize vc.heap.size = gl at hl ⊢
    have HL := Lib.hid hl
    have hv2 := hv.trans hx0
    have HO := Lib.hid (HO.out.ext hx0)
    have hbs := Nat.le_trans hbs hx0.size_le
    have hv := hv2
    clear hv2 hx0 hl
    refine wpAnyH_one (i := 8) (by kernel_rfl) rfl (by kernel_rfl) ?_
    refine wp_append_w (R := Rev) (fun h => Rev.one h) w1 vl _ _ 22 28 i0 z0 rfl Tryz.underlying22 hi0 hz0 hs0 hby0 hzk0 (by decide) base v' l rfl HO.out gl 1 [.int .i64 ((n : Int) + 1), .string author, .string branch, .slice B p q, .int .i64 1, .slice none 0 0] ⟨(n : Int) + 1, author, branch, d, 1, []⟩ rfl (HL.out.range 0 _ (fun j _ => by simp)) rfl HVT.out (by have := HN.out; unfold maxLen; omega) (by have := HN.out; omega) hbs ?_
    intro gg cap v4 hown4 hgrow
    have hlt := HO.out.lt
    have hv4 : Ext w1 v4 := Below.grown hv hgrow hv.size_le (fun k e => by have := (hlt k e).1; omega)
    have HO4 := Lib.hid hown4
    rw [HN.out]
    refine ⟨hv4, ?_⟩
    try simp only [Act.put, sA, s0, sS]
    clear hv
    have hv := hv4
    clear hv4 hgrow hlt hown4
    refine tf (i := 10) (v := .slice (some ⟨gg, 0, none⟩) (n + 1) cap) rfl rfl (fun _ => rfl) hv ?_
    try simp only [Act.put, sA, s0, sS]
    refine tf (i := 11) (v := .int .i64 ((n : Int) + 1)) rfl rfl (fun _ => rfl) hv ?_
    try simp only [Act.put, sA, s0, sS]
    refine tf (i := 12) (v := .int .i64 0) rfl rfl (fun _ => rfl) hv ?_
    try simp only [Act.put, sA, s0, sS]
    refine wpAnyH_done (by kernel_rfl) (NoPanic.normal ?_) _
    go_wp2_with fail
    refine bodyPost_ret (v := .tuple #[.slice (some ⟨gg, 0, none⟩) (n + 1) cap, .int .i64 ((n : Int) + 1), .int .i64 0]) ?_ rfl ?_
    · simp only [results, Tryz.results40]
      go_simp
    · obtain ⟨A9, n9, c9, e9, hrv⟩ := HO4.out.revs hv
      have e8 : (Value.slice (some ⟨gg, 0, none⟩) (n + 1) cap) = .slice A9 n9 c9 := by rw [← HN.out]; exact e9
      rw [e8]
      exact ⟨A9, n9, c9, rfl, hrv, HX1.out.trans hv⟩
  · go_simp
    refine hK.out _ _ (hv.alloc _) (fun _ => ?_)
    clear hK
    try simp only [Act.put, sA, s0, sS]
    have hx0 : Ext v0 (v0.alloc (.cells #[.int .i64 ((n : Int) + 1), .string author, .string branch, .slice B p q, .int .i64 1, .slice none 0 0] 28)) := (Ext.refl v0).alloc _
    have hl : Blk (v0.alloc (.cells #[.int .i64 ((n : Int) + 1), .string author, .string branch, .slice B p q, .int .i64 1, .slice none 0 0] 28)) v0.heap.size 28 #[.int .i64 ((n : Int) + 1), .string author, .string branch, .slice B p q, .int .i64 1, .slice none 0 0] := Blk.new' rfl
    generalize v0.alloc (.cells #[.int .i64 ((n : Int) + 1), .string author, .string branch, .slice B p q, .int .i64 1, .slice none 0 0] 28) = vl at hx0 hl ⊢
    generalize v0.heap.size = gl at hl ⊢
    have HL := Lib.hid hl
    have hv2 := hv.trans hx0
    have hv := hv2
    clear hv2 hx0 hl
    refine wpAnyH_one (i := 1) (by kernel_rfl) rfl (by kernel_rfl) ?_
    go_simp
    refine (HCL.out vl hv).mono ?_
    rintro e vc ⟨v', rfl, hown, hx0⟩
    have hwb : w.heap.size ≤ vl.heap.size := (HX1.out.trans hv).size_le
    have hwb1 : w1.heap.size ≤ vl.heap.size := hv.size_le
    have hbs : vl.heap.size ≤ vc.heap.size := hx0.size_le
    generalize vl.heap.size = base at hown hwb hwb1 hbs
    have hv2 := hv.trans hx0
    refine ⟨hv2, ?_⟩
    try simp only [Act.put, sA, s0, sS]
    have HO := Lib.hid hown
    have HL := Lib.hid (HL.out.ext hx0)
    have hv := hv2
    clear hv2 hx0 hown
    refine wpAnyH_one (i := 8) (by kernel_rfl) rfl (by kernel_rfl) ?_
    refine wp_append_w (R := Rev) (fun h => Rev.one h) w1 vc _ _ 22 28 i0 z0 rfl Tryz.underlying22 hi0 hz0 hs0 hby0 hzk0 (by decide) base v' l rfl HO.out gl 1 [.int .i64 ((n : Int) + 1), .string author, .string branch, .slice B p q, .int .i64 1, .slice none 0 0] ⟨(n : Int) + 1, author, branch, d, 1, []⟩ rfl (HL.out.range 0 _ (fun j _ => by simp)) rfl HVT.out (by have := HN.out; unfold maxLen; omega) (by have := HN.out; omega) hbs ?_
    intro gg cap v4 hown4 hgrow
    have hlt := HO.out.lt
    have hv4 : Ext w1 v4 := Below.grown hv hgrow hv.size_le (fun k e => by have := (hlt k e).1; omega)
    have HO4 := Lib.hid hown4
    rw [HN.out]
    refine ⟨hv4, ?_⟩
    try simp only [Act.put, sA, s0, sS]
    clear hv
    have hv := hv4
    clear hv4 hgrow hlt hown4
    refine tf (i := 10) (v := .slice (some ⟨gg, 0, none⟩) (n + 1) cap) rfl rfl (fun _ => rfl) hv ?_
    try simp only [Act.put, sA, s0, sS]
    refine tf (i := 11) (v := .int .i64 ((n : Int) + 1)) rfl rfl (fun _ => rfl) hv ?_
    try simp only [Act.put, sA, s0, sS]
    refine tf (i := 12) (v := .int .i64 0) rfl rfl (fun _ => rfl) hv ?_
    try simp only [Act.put, sA, s0, sS]
    refine wpAnyH_done (by kernel_rfl) (NoPanic.normal ?_) _
    go_wp2_with fail
    refine bodyPost_ret (v := .tuple #[.slice (some ⟨gg, 0, none⟩) (n + 1) cap, .int .i64 ((n : Int) + 1), .int .i64 0]) ?_ rfl ?_
    · simp only [results, Tryz.results40]
      go_simp
    · obtain ⟨A9, n9, c9, e9, hrv⟩ := HO4.out.revs hv
      have e8 : (Value.slice (some ⟨gg, 0, none⟩) (n + 1) cap) = .slice A9 n9 c9 := by rw [← HN.out]; exact e9
      rw [e8]
      exact ⟨A9, n9, c9, rfl, hrv, HX1.out.trans hv⟩
end Go.Proofs.YtojfgidoobgcaaaGreatDoor
