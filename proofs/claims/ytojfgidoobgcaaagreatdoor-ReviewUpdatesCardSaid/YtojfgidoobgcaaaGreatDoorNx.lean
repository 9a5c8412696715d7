/- Walks: what changes a review, one closure each for update and close; changed. -/
import Derived.Test.YtojfgidoobgcaaaGreatDoorNw
set_option linter.unusedSimpArgs false
set_option linter.unusedVariables false
namespace Go.Proofs.YtojfgidoobgcaaaGreatDoor
open Go Go.RowKit

/-- What an update does. -/
def Vw.updOf (who : ByteArray) (d : List Dg) (r : Rv) : Rv × Int := if Qm.eqB who r.author = false then (r, 21) else ({ r with ids := d, state := 1 }, Vw.ids d)
set_option maxHeartbeats 8000000 in
set_option maxRecDepth 100000 in
/-- review.Update's closure. -/
theorem upd1_any (who : ByteArray) (d : List Dg) (B : Option Addr) (p q g gw gi : Nat) (w0 w : World) (hw : Ext w0 w) (hg : w0.heap.size ≤ g) (c : List Value) (r : Rv)
    (hbw : Blk w0 gw 9 #[.string who]) (hbi : Blk w0 gi 25 #[.slice B p q]) (hd : Ds w0 All B d) (hp : d.length = p) (hpq : p ≤ q) (hpb : p ≤ 1000000000)
    (hb : Blk w g 28 c.toArray) (hr : Rev w0 All c r) :
    Calls Tryz.prog 60 #[.pointer (some ⟨g, 0, none⟩), .pointer (some ⟨gw, 0, none⟩), .pointer (some ⟨gi, 0, none⟩)] w (Changes g w0 (Vw.updOf who d r)) := by
  obtain ⟨A', n', m', B', p', q', rfl, hids, hp', hq', hvs⟩ := hr
  have hlw := hbw.lt
  have hli := hbi.lt
  obtain ⟨hcw, hfw, hlw'⟩ := (Blk.ext hw hbw).all
  obtain ⟨hci, hfi, hli'⟩ := (Blk.ext hw hbi).all
  obtain ⟨hc0, hf0, hl0⟩ := hb.all
  have HB := Lib.hid hb
  have HW := Lib.hid hw
  have HD := Lib.hid hd
  have HBI := Lib.hid hbi
  have HV : Hid (∀ W, Ext w0 W → ∃ cs : List Value, cs.toArray = #[.int .i64 r.number, .string r.author, .string r.branch, .slice B p q, .int .i64 1, .slice B' p' q'] ∧ Rev W All cs { r with ids := d, state := 1 }) :=
    Lib.hid fun W hW => ⟨_, rfl, B, p, q, B', p', q', rfl, ⟨hp, hpq, Ds.ext hd hW⟩, hp', hq', Vs.ext hvs hW⟩
  have HI : Hid (∀ W, Ext w0 W → Calls Tryz.prog 61 #[.slice B p q] W (Ret (.int .i64 (Vw.ids d)) W)) := Lib.hid fun W hW => vids_any B p q d W (Ds.ext hd hW) hp hpb
  have HU : Hid (Vw.updOf who d r = if Qm.eqB who r.author = false then (r, 21) else ({ r with ids := d, state := 1 }, Vw.ids d)) := Lib.hid rfl
  generalize Vw.updOf who d r = R at HU ⊢
  clear hb hw hd hbi hbw hids hvs hp' hq' hp hpq
  cases hq : Qm.eqB who r.author
  · have hj : (who.toList == r.author.toList) = false := hq
    have hv : R = (r, 21) := by rw [HU.out, if_pos hq]
    clear HU hq
    subst hv
    go_enter Tryz.func60, Tryz.ntmps60
    have hx := Ext.refl w
    go_wp2_with (go_quiet (fail))
    go_ret
    exact ⟨rfl, HW.out.trans (hx.drewN _), fun h => by cases h⟩
  have hj : (who.toList == r.author.toList) = true := hq
  have hv : R = ({ r with ids := d, state := 1 }, Vw.ids d) := by rw [HU.out, if_neg (by rw [hq]; decide)]
  clear HU hq
  generalize Vw.ids d = E at hv HI
  subst hv
  go_enter Tryz.func60, Tryz.ntmps60
  have hx := Ext.refl w
  go_wp2_with (go_quiet (fail))
  have hx2 := (Ext.setCell (p := ⟨g, 4, none⟩) (Ext.setCell (p := ⟨g, 3, none⟩) (HW.out.trans (hx.drewN nq)) hg (.slice B p q)) hg (.int .i64 1))
  have hb2 := ((HB.out.drewN nq).set_ 3 (.slice B p q)).set_ 4 (.int .i64 1)
  generalize ((w.drewN nq).setCell { block := g, off := 3 } (Value.slice B p q)).setCell { block := g, off := 4 } (Value.int IntKind.i64 1) = w2 at hx2 hb2 ⊢
  have HX2 := Lib.hid hx2
  have HB2 := Lib.hid hb2
  clear hx2 hb2 hx hcw hfw hlw' hci hfi hli' hc0 hf0 hl0
  refine (HI.out w2 HX2.out).mono ?_
  rintro e w3 ⟨rfl, hx3⟩
  have HX3 := Lib.hid hx3
  clear hx3
  go_wp2_with fail
  go_ret
  refine ⟨rfl, HX2.out.trans HX3.out, fun _ => ?_⟩
  obtain ⟨cs, e, hr⟩ := HV.out _ (HX2.out.trans HX3.out)
  exact ⟨cs, by rw [e]; exact HB2.out.ext HX3.out, hr⟩
/-- What a close does. -/
def Vw.cloOf (who : ByteArray) (e : Int) (r : Rv) : Rv × Int := if e = 4 ∧ r.state ≠ 2 then (r, 16) else if e = 5 ∧ Qm.eqB who r.author = false then (r, 21) else ({ r with state := e }, 0)
set_option maxHeartbeats 8000000 in
set_option maxRecDepth 100000 in
/-- review.Close's closure. -/
theorem clo1_any (who : ByteArray) (en : Int) (hen : en = 4 ∨ en = 5) (g ge gw : Nat) (w0 w : World) (hw : Ext w0 w) (hg : w0.heap.size ≤ g) (c : List Value) (r : Rv)
    (hbe : Blk w0 ge 3 #[.int .i64 en]) (hbw : Blk w0 gw 9 #[.string who])
    (hb : Blk w g 28 c.toArray) (hr : Rev w0 All c r) :
    Calls Tryz.prog 79 #[.pointer (some ⟨g, 0, none⟩), .pointer (some ⟨ge, 0, none⟩), .pointer (some ⟨gw, 0, none⟩)] w (Changes g w0 (Vw.cloOf who en r)) := by
  obtain ⟨A', n', m', B', p', q', rfl, ⟨hn', hm', hids⟩, hp', hq', hvs⟩ := hr
  have hlw := hbw.lt
  have hle := hbe.lt
  obtain ⟨hcw, hfw, hlw'⟩ := (Blk.ext hw hbw).all
  obtain ⟨hce, hfe, hle'⟩ := (Blk.ext hw hbe).all
  obtain ⟨hc0, hf0, hl0⟩ := hb.all
  have HB := Lib.hid hb
  have HW := Lib.hid hw
  have HV : Hid (∀ W, Ext w0 W → ∃ cs : List Value, cs.toArray = #[.int .i64 r.number, .string r.author, .string r.branch, .slice A' n' m', .int .i64 en, .slice B' p' q'] ∧ Rev W All cs { r with state := en }) :=
    Lib.hid fun W hW => ⟨_, rfl, A', n', m', B', p', q', rfl, ⟨hn', hm', Ds.ext hids hW⟩, hp', hq', Vs.ext hvs hW⟩
  have HU : Hid (Vw.cloOf who en r = if en = 4 ∧ r.state ≠ 2 then (r, 16) else if en = 5 ∧ Qm.eqB who r.author = false then (r, 21) else ({ r with state := en }, 0)) := Lib.hid rfl
  generalize Vw.cloOf who en r = R at HU ⊢
  generalize hst : r.state = st at HU hc0 HB
  clear hb hw hbe hbw hids hvs hp' hq' hn' hm' hst
  rcases hen with rfl | rfl
  · have HVV := HV
    clear HV
    by_cases h2 : st = 2
    · subst h2
      have hv : R = ({ r with state := 4 }, 0) := by rw [HU.out, if_neg (by simp), if_neg (by simp)]
      clear HU
      subst hv
      go_enter Tryz.func79, Tryz.ntmps79
      have hx := Ext.refl w
      go_wp2_with (go_quiet (fail))
      go_ret
      refine ⟨rfl, Ext.setCell (p := ⟨g, 4, none⟩) (HW.out.trans (hx.drewN nq)) hg (.int .i64 4), fun _ => ?_⟩
      obtain ⟨cs, e, hr⟩ := HVV.out _ (Ext.setCell (p := ⟨g, 4, none⟩) (HW.out.trans (hx.drewN nq)) hg (.int .i64 4))
      exact ⟨cs, by rw [e]; exact (HB.out.drewN nq).set_ 4 (.int .i64 4), hr⟩
    · have k2 : (st == 2) = false := by simpa using h2
      have hv : R = (r, 16) := by rw [HU.out, if_pos ⟨rfl, h2⟩]
      clear HU h2
      subst hv
      go_enter Tryz.func79, Tryz.ntmps79
      have hx := Ext.refl w
      go_wp2_with (go_quiet (fail))
      go_ret
      exact ⟨rfl, HW.out.trans hx, fun h => by cases h⟩
  · have HVV := HV
    clear HV
    cases hq : Qm.eqB who r.author
    · have hj : (who.toList == r.author.toList) = false := hq
      have hv : R = (r, 21) := by rw [HU.out, if_neg (by simp), if_pos ⟨rfl, hq⟩]
      clear HU hq
      subst hv
      go_enter Tryz.func79, Tryz.ntmps79
      have hx := Ext.refl w
      go_wp2_with (go_quiet (fail))
      go_ret
      exact ⟨rfl, HW.out.trans (hx.drewN _), fun h => by cases h⟩
    · have hj : (who.toList == r.author.toList) = true := hq
      have hv : R = ({ r with state := 5 }, 0) := by rw [HU.out, if_neg (by simp), if_neg (by simp [hq])]
      clear HU hq
      subst hv
      go_enter Tryz.func79, Tryz.ntmps79
      have hx := Ext.refl w
      go_wp2_with (go_quiet (fail))
      go_ret
      refine ⟨rfl, Ext.setCell (p := ⟨g, 4, none⟩) (HW.out.trans (hx.drewN nq)) hg (.int .i64 5), fun _ => ?_⟩
      obtain ⟨cs, e, hr⟩ := HVV.out _ (Ext.setCell (p := ⟨g, 4, none⟩) (HW.out.trans (hx.drewN nq)) hg (.int .i64 5))
      exact ⟨cs, by rw [e]; exact (HB.out.drewN nq).set_ 4 (.int .i64 5), hr⟩
set_option maxHeartbeats 8000000 in
set_option maxRecDepth 100000 in
/-- review.changed. -/
theorem changed_any (A : Option Addr) (n c : Nat) (number : Int) (l : List Rv) (w : World) (h : Rs w All A l) (hn : l.length = n) (hb : n ≤ 1000000000) (fid : Nat) (lb : Array Value) (eg : ∀ args w, (callFunc fid args).run Tryz.prog w = .ok (.enter fid args) w) (f : Rv → Rv × Int)
    (H : ∀ (W : World) (g : Nat) (cs : List Value) (r : Rv), Ext w W → w.heap.size ≤ g → r ∈ l → Blk W g 28 cs.toArray → Rev w All cs r → Calls Tryz.prog fid (#[.pointer (some ⟨g, 0, none⟩)] ++ lb) W (Changes g w (f r))) :
    Calls Tryz.prog 59 #[.slice A n c, .int .i64 number, .func (.func fid) #[] lb] w (GivesR w (Vw.changed l number f)) := by
  have HV : Hid (Vw.changed l number f = if number < 1 then ([], 7) else match l[(number - 1).toNat]? with
    | none => ([], 7)
    | some r => if Vw.ended r = true then ([], 16) else if (f r).2 ≠ 0 then ([], (f r).2) else (l.set (number - 1).toNat (f r).1, 0)) := Lib.hid rfl
  generalize Vw.changed l number f = R at HV ⊢
  have HL := Lib.hid h
  have HN := Lib.hid hn
  have HH := Lib.hid H
  clear h hn H
  by_cases h1 : number < 1
  · have k1 : decide (number < 1) = true := decide_eq_true h1
    have hv : R = ([], 7) := by rw [HV.out, if_pos h1]
    clear HV
    subst hv
    go_enter Tryz.func59, Tryz.ntmps59
    have hx := Ext.refl w
    go_wp2_with fail
    go_ret2
    exact ⟨none, 0, 0, rfl, Revs.nil _, hx⟩
  have k1 : decide (number < 1) = false := decide_eq_false h1
  by_cases h2 : (n : Int) < number
  · have k2 : decide ((n : Int) < number) = true := decide_eq_true h2
    have hv : R = ([], 7) := by
      rw [HV.out, if_neg h1, List.getElem?_eq_none (by have := HN.out; omega)]
    clear HV
    subst hv
    go_enter Tryz.func59, Tryz.ntmps59
    have hx := Ext.refl w
    go_wp2_with fail
    go_ret2
    exact ⟨none, 0, 0, rfl, Revs.nil _, hx⟩
  have k2 : decide ((n : Int) < number) = false := decide_eq_false h2
  obtain ⟨k, rfl⟩ : ∃ k : Nat, number = (k : Int) + 1 := ⟨(number - 1).toNat, by omega⟩
  have hkl : k < l.length := by have := HN.out; omega
  have hkn : k < n := by omega
  have e0 : l[k]? = some l[k] := List.getElem?_eq_getElem _
  have hm := List.mem_of_getElem? e0
  obtain ⟨b, o, cs, rfl, hbl, _, _, hr, hvt⟩ := HL.out.get e0
  have hv : R = if Vw.ended l[k] = true then ([], 16) else if (f l[k]).2 ≠ 0 then ([], (f l[k]).2) else (l.set k (f l[k]).1, 0) := by
    rw [HV.out, if_neg h1, show ((k : Int) + 1 - 1).toNat = k by omega, e0]
  have HV := Lib.hid hv
  clear hv
  generalize l[k] = r at e0 hvt hm HV
  have HR := Lib.hid hvt
  have HM := Lib.hid hm
  have HE : Hid (∀ W, Ext w W → Calls Tryz.prog 47 #[.agg cs.toArray] W (Ret (.bool (Vw.ended r)) W)) := Lib.hid fun W hW => cended_any cs r W (Rev.steadfast.ext hvt hW)
  obtain ⟨A', n', m', B', p', q', rfl, _, _, _, _⟩ := hvt
  obtain ⟨c0, c1, c2, c3, c4, c5⟩ := cells6 hr
  clear h1 h2 hr hm e0
  go_enter Tryz.func59, Tryz.ntmps59
  have hx := Ext.refl w
  go_wp2_with fail
  have HX := Lib.hid (hx.alloc (.cells #[.int .i64 r.number, .string r.author, .string r.branch, .slice A' n' m', .int .i64 r.state, .slice B' p' q'] 28))
  clear hx
  refine (HE.out _ HX.out).mono ?_
  rintro e w1 ⟨rfl, hx0⟩
  have hb1 := Blk.ext hx0 (Blk.new' (w := w) (g := w.heap.size) (cs := #[.int .i64 r.number, .string r.author, .string r.branch, .slice A' n' m', .int .i64 r.state, .slice B' p' q']) (t := 28) rfl)
  have HX1 := Lib.hid (HX.out.trans hx0)
  obtain ⟨hc0, hf0, hl0⟩ := hb1.all
  have HB1 := Lib.hid hb1
  clear hx0 HX HE hb1 c0 c1 c2 c3 c4 c5
  cases hen : Vw.ended r
  rotate_left
  · have hv : R = ([], 16) := by rw [HV.out, if_pos hen]
    clear HV hen
    subst hv
    go_wp2_with fail
    go_ret2
    exact ⟨none, 0, 0, rfl, Revs.nil _, HX1.out⟩
  have hv := HV.out
  rw [if_neg (by rw [hen]; decide)] at hv
  have HV := Lib.hid hv
  clear hv hen
  have HC := Lib.hid (HH.out w1 w.heap.size #[.int .i64 r.number, .string r.author, .string r.branch, .slice A' n' m', .int .i64 r.state, .slice B' p' q'].toList r HX1.out (Nat.le_refl _) HM.out HB1.out HR.out)
  generalize f r = Z at HV HC
  obtain ⟨r', ev⟩ := Z
  go_wp2_with fail
  refine HC.out.mono ?_
  rintro e w2 ⟨rfl, hx2, hres⟩
  have HX2 := Lib.hid hx2
  have HRS := Lib.hid hres
  clear hx2 hres hc0 hf0 hl0 HC HH HB1
  by_cases h0 : ev = 0
  rotate_left
  · have hk0 : (ev == 0) = false := by simpa using h0
    have hv : R = ([], ev) := by rw [HV.out, if_pos h0]
    clear HV HRS h0
    subst hv
    dsimp only
    go_wp2_with fail
    go_ret2
    exact ⟨none, 0, 0, rfl, Revs.nil _, HX2.out⟩
  subst h0
  have hv : R = (l.set k r', 0) := by rw [HV.out, if_neg (by simp)]
  obtain ⟨cs', hb2, hr2⟩ := HRS.out rfl
  have HR2 := Lib.hid hr2
  have hcs := hr2.one
  obtain ⟨D, i1, j1, E, i2, j2, rfl, _, _⟩ := hr2
  have HB2 := Lib.hid hb2
  obtain ⟨hc0, hf0, hl0⟩ := hb2.all
  have HCL : Hid (∀ W, Ext w2 W → Calls Tryz.prog 68 #[.slice (some ⟨b, o, none⟩) n c] W (fun e w' => ∃ v', e = .returned v' ∧ OwnW 6 Rev 28 w2 w' W.heap.size All v' l ∧ Ext W w')) := Lib.hid fun W hW => rclone_any (some ⟨b, o, none⟩) n c l w2 W (Rs.ext HL.out HX2.out) hW HN.out hb
  clear HV HRS hcs
  subst hv
  dsimp only
  go_wp2_with fail
  refine (HCL.out w2 (Ext.refl _)).mono ?_
  rintro e w3 ⟨v', rfl, hown, hx3⟩
  have hkl2 : 0 < l.length := by omega
  obtain ⟨g2, c2, cur, rfl, hbg, hlt, hcap, hblk, hsz⟩ := hown.has hkl2
  rw [HN.out] at hown hcap hsz ⊢
  have HOW := Lib.hid hown
  have HX3 := Lib.hid (HX2.out.trans hx3)
  have HX23 := Lib.hid hx3
  have HG := Lib.hid hbg
  obtain ⟨hcr, hfr, hlr⟩ := hblk.all
  obtain ⟨hc1, hf1, hl1⟩ := (HB2.out.ext hx3).all
  clear hc0 hf0 hl0 hown hx3 hblk HCL
  have hs : ∀ j, j < 6 → ∃ x, cur[k * 6 + j]? = some x := fun j hj => ⟨_, Array.getElem?_eq_getElem (by omega)⟩
  obtain ⟨x0, s0⟩ := hs 0 (by decide)
  obtain ⟨x1, s1⟩ := hs 1 (by decide)
  obtain ⟨x2, s2⟩ := hs 2 (by decide)
  obtain ⟨x3, s3⟩ := hs 3 (by decide)
  obtain ⟨x4, s4⟩ := hs 4 (by decide)
  obtain ⟨x5, s5⟩ := hs 5 (by decide)
  rw [Nat.add_zero] at s0
  clear hs hsz
  go_wp2_with fail
  have hput := HOW.out.put (i := k) hkl (c := [.int .i64 r'.number, .string r'.author, .string r'.branch, .slice D i1 j1, .int .i64 r'.state, .slice E i2 j2]) rfl HR2.out
  have hxa := Ext.putMany (w := w) (b := g2) (Nat.le_trans HX2.out.size_le HG.out) [.int .i64 r'.number, .string r'.author, .string r'.branch, .slice D i1 j1, .int .i64 r'.state, .slice E i2 j2] (k * 6) _ HX3.out
  have hxb := Ext.putMany (w := w2) (b := g2) HG.out [.int .i64 r'.number, .string r'.author, .string r'.branch, .slice D i1 j1, .int .i64 r'.state, .slice E i2 j2] (k * 6) _ HX23.out
  obtain ⟨A9, n9, c9, e9, hrv⟩ := hput.revs hxb
  obtain ⟨rfl, rfl, rfl⟩ : some ⟨g2, 0, none⟩ = A9 ∧ n = n9 ∧ c2 = c9 := by simpa using e9
  go_ret2
  exact ⟨_, _, _, rfl, hrv, hxa⟩
end Go.Proofs.YtojfgidoobgcaaaGreatDoor
