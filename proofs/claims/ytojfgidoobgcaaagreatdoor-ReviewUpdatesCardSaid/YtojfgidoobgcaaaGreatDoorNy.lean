/- Walks: review.Update, review.Close. -/
import Derived.Test.YtojfgidoobgcaaaGreatDoorNx
set_option linter.unusedSimpArgs false
set_option linter.unusedVariables false
namespace Go.Proofs.YtojfgidoobgcaaaGreatDoor
open Go Go.RowKit

theorem Vw.update_eq (l : List Rv) (number : Int) (who : ByteArray) (d : List Dg) : Vw.update l number who d = if Vw.check l ≠ 0 then ([], Vw.check l) else Vw.changed l number (Vw.updOf who d) := rfl
theorem Vw.close_eq (l : List Rv) (number : Int) (who : ByteArray) (e : Int) : Vw.close l number who e = if Vw.check l ≠ 0 then ([], Vw.check l) else if e ≠ 4 ∧ e ≠ 5 then ([], 8) else Vw.changed l number (Vw.cloOf who e) := rfl
set_option maxHeartbeats 8000000 in
set_option maxRecDepth 100000 in
/-- review.Update. -/
theorem update_any (A : Option Addr) (n c : Nat) (number : Int) (who : ByteArray) (B : Option Addr) (p q : Nat) (l : List Rv) (d : List Dg) (w : World) (hg : Glob w) (h : Rs w All A l) (hn : l.length = n) (hb : n ≤ 1000000000) (hf : ∀ r ∈ l, r.Fits) (hd : Ds w All B d) (hp : d.length = p) (hpq : p ≤ q) (hpb : p ≤ 1000000000) :
    Calls Tryz.prog 34 #[.slice A n c, .int .i64 number, .string who, .slice B p q] w (GivesR w (Vw.update l number who d)) := by
  have HC : Hid (∀ W, Ext w W → Calls Tryz.prog 14 #[.slice A n c] W (Ret (.int .i64 (Vw.check l)) W)) := Lib.hid fun W hW => ccheck_any A n c l W (hg.ext hW) (Rs.ext h hW) hn hb hf
  have HCH : Hid (∀ (W : World) (gw gi : Nat), Ext w W → Blk W gw 9 #[.string who] → Blk W gi 25 #[.slice B p q] → Calls Tryz.prog 59 #[.slice A n c, .int .i64 number, .func (.func 60) #[] #[.pointer (some ⟨gw, 0, none⟩), .pointer (some ⟨gi, 0, none⟩)]] W (GivesR W (Vw.changed l number (Vw.updOf who d)))) :=
    Lib.hid fun W gw gi hW b1 b2 => changed_any A n c number l W (Rs.ext h hW) hn hb 60 _ (enters_of Tryz.func60 (by kernel_rfl) rfl) (Vw.updOf who d) fun W' g cs r hx hgl hm hbk hr =>
      upd1_any who d B p q g gw gi W W' hx hgl cs r b1 b2 (Ds.ext hd hW) hp hpq hpb hbk hr
  have HU := Lib.hid (Vw.update_eq l number who d)
  generalize Vw.update l number who d = R at HU ⊢
  generalize Vw.changed l number (Vw.updOf who d) = Z at HU HCH
  generalize Vw.check l = K at HU HC
  clear h hn hf hg hd hp
  go_enter Tryz.func34, Tryz.ntmps34
  have hx := Ext.refl w
  go_wp2_with fail
  refine (HC.out _ ((hx.alloc _).alloc _)).mono ?_
  rintro e w1 ⟨rfl, hx0⟩
  have hb0 := Blk.ext hx0 (Blk.alloc (Blk.new' (w := w) (g := w.heap.size) (cs := #[.string who]) (t := 9) rfl) (.cells #[.slice B p q] 25))
  have hb1 := Blk.ext hx0 (Blk.new' (w := w.alloc (.cells #[.string who] 9)) (g := w.heap.size + 1) (cs := #[.slice B p q]) (t := 25) (by simp))
  have HX1 := Lib.hid (((hx.alloc _).alloc _).trans hx0)
  have HCC := Lib.hid (HCH.out w1 _ _ HX1.out hb0 hb1)
  clear hx hx0 HC HCH hb0 hb1
  by_cases h0 : K = 0
  · subst h0
    have hv : R = Z := by rw [HU.out, if_neg (by simp)]
    clear HU
    subst hv
    go_wp2_with fail
    refine HCC.out.mono ?_
    rintro e w2 ⟨A1, n1, c1, rfl, hrv, hx2⟩
    have HRV := Lib.hid hrv
    have HX2 := Lib.hid (HX1.out.trans hx2)
    clear hrv hx2
    go_wp2_with fail
    go_ret2
    exact ⟨_, _, _, rfl, HRV.out, HX2.out⟩
  · have hk0 : (K == 0) = false := by simpa using h0
    have hv : R = ([], K) := by rw [HU.out, if_pos h0]
    clear HU HCC h0
    subst hv
    go_wp2_with fail
    go_ret2
    exact ⟨none, 0, 0, rfl, Revs.nil _, HX1.out⟩
set_option maxHeartbeats 8000000 in
set_option maxRecDepth 100000 in
/-- review.Close. -/
theorem close_any (A : Option Addr) (n c : Nat) (number : Int) (who : ByteArray) (en : Int) (l : List Rv) (w : World) (hg : Glob w) (h : Rs w All A l) (hn : l.length = n) (hb : n ≤ 1000000000) (hf : ∀ r ∈ l, r.Fits) :
    Calls Tryz.prog 51 #[.slice A n c, .int .i64 number, .string who, .int .i64 en] w (GivesR w (Vw.close l number who en)) := by
  have HC : Hid (∀ W, Ext w W → Calls Tryz.prog 14 #[.slice A n c] W (Ret (.int .i64 (Vw.check l)) W)) := Lib.hid fun W hW => ccheck_any A n c l W (hg.ext hW) (Rs.ext h hW) hn hb hf
  have HCH : Hid (∀ (W : World) (gw ge : Nat), (en = 4 ∨ en = 5) → Ext w W → Blk W gw 9 #[.string who] → Blk W ge 3 #[.int .i64 en] → Calls Tryz.prog 59 #[.slice A n c, .int .i64 number, .func (.func 79) #[] #[.pointer (some ⟨ge, 0, none⟩), .pointer (some ⟨gw, 0, none⟩)]] W (GivesR W (Vw.changed l number (Vw.cloOf who en)))) :=
    Lib.hid fun W gw ge hen hW b1 b2 => changed_any A n c number l W (Rs.ext h hW) hn hb 79 _ (enters_of Tryz.func79 (by kernel_rfl) rfl) (Vw.cloOf who en) fun W' g cs r hx hgl hm hbk hr =>
      clo1_any who en hen g ge gw W W' hx hgl cs r b2 b1 hbk hr
  have HU := Lib.hid (Vw.close_eq l number who en)
  generalize Vw.close l number who en = R at HU ⊢
  generalize Vw.changed l number (Vw.cloOf who en) = Z at HU HCH
  generalize Vw.check l = K at HU HC
  clear h hn hf hg
  go_enter Tryz.func51, Tryz.ntmps51
  have hx := Ext.refl w
  go_wp2_with fail
  refine (HC.out _ ((hx.alloc _).alloc _)).mono ?_
  rintro e w1 ⟨rfl, hx0⟩
  have hb0 := Blk.ext hx0 (Blk.alloc (Blk.new' (w := w) (g := w.heap.size) (cs := #[.string who]) (t := 9) rfl) (.cells #[.int .i64 en] 3))
  have hb1 := Blk.ext hx0 (Blk.new' (w := w.alloc (.cells #[.string who] 9)) (g := w.heap.size + 1) (cs := #[.int .i64 en]) (t := 3) (by simp))
  have HX1 := Lib.hid (((hx.alloc _).alloc _).trans hx0)
  have HCC := Lib.hid (fun he => HCH.out w1 _ _ he HX1.out hb0 hb1)
  obtain ⟨hc1, hf1, hl1⟩ := hb1.all
  clear hx hx0 HC HCH hb0 hb1
  by_cases h0 : K = 0
  rotate_left
  · have hk0 : (K == 0) = false := by simpa using h0
    have hv : R = ([], K) := by rw [HU.out, if_pos h0]
    clear HU HCC h0
    subst hv
    go_wp2_with fail
    go_ret2
    exact ⟨none, 0, 0, rfl, Revs.nil _, HX1.out⟩
  subst h0
  by_cases hen : en = 4 ∨ en = 5
  rotate_left
  · have k4 : (en != 4) = true := by simp; omega
    have k5 : (en != 5) = true := by simp; omega
    have hv : R = ([], 8) := by rw [HU.out, if_neg (by simp), if_pos (by omega)]
    clear HU HCC hen
    subst hv
    go_wp2_with fail
    go_ret2
    exact ⟨none, 0, 0, rfl, Revs.nil _, HX1.out⟩
  have hv : R = Z := by rw [HU.out, if_neg (by simp), if_neg (by omega)]
  have HC2 := Lib.hid (HCC.out hen)
  clear HU HCC
  subst hv
  rcases hen with rfl | rfl
  · go_wp2_with fail
    refine HC2.out.mono ?_
    rintro e w2 ⟨A1, n1, c1, rfl, hrv, hx2⟩
    have HRV := Lib.hid hrv
    have HX2 := Lib.hid (HX1.out.trans hx2)
    clear hrv hx2
    go_wp2_with fail
    go_ret2
    exact ⟨_, _, _, rfl, HRV.out, HX2.out⟩
  · go_wp2_with fail
    refine HC2.out.mono ?_
    rintro e w2 ⟨A1, n1, c1, rfl, hrv, hx2⟩
    have HRV := Lib.hid hrv
    have HX2 := Lib.hid (HX1.out.trans hx2)
    clear hrv hx2
    go_wp2_with fail
    go_ret2
    exact ⟨_, _, _, rfl, HRV.out, HX2.out⟩
end Go.Proofs.YtojfgidoobgcaaaGreatDoor
