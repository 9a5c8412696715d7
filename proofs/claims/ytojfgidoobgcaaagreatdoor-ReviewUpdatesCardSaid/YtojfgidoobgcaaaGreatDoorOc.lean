/- Walks: the chapter's example of reviews. -/
import Derived.Test.YtojfgidoobgcaaaGreatDoorOb
import Derived.Test.YtojfgidoobgcaaaGreatDoorNq
import Derived.Test.YtojfgidoobgcaaaGreatDoorJ
set_option linter.unusedSimpArgs false
set_option linter.unusedVariables false
namespace Go.Proofs.YtojfgidoobgcaaaGreatDoor
open Go Go.RowKit

def dg1 : Dg := ⟨1 :: List.replicate 31 0, rfl⟩
def nAnn : ByteArray := ⟨#[97, 110, 110]⟩
def nMain : ByteArray := ⟨#[109, 97, 105, 110]⟩
def nBob : ByteArray := ⟨#[98, 111, 98]⟩
def nCid : ByteArray := ⟨#[99, 105, 100]⟩
def awV (who : ByteArray) (k : Int) : Vt := ⟨who, k, ⟨#[]⟩, [dg1]⟩
def awR (st : Int) (vs : List Vt) : Rv := ⟨1, nAnn, nMain, [dg1], st, vs⟩
theorem aw_prop : Vw.propose [] nAnn nMain [dg1] = ([awR 1 []], 1, 0) := by kernel_rfl
theorem aw_v1 : Vw.addVote [awR 1 []] 1 (awV nBob 1) 1 = ([awR 2 [awV nBob 1]], 0) := by kernel_rfl
theorem aw_v2 : Vw.addVote [awR 2 [awV nBob 1]] 1 (awV nCid 2) 1 = ([awR 3 [awV nBob 1, awV nCid 2]], 0) := by kernel_rfl
theorem aw_v3 : Vw.addVote [awR 3 [awV nBob 1, awV nCid 2]] 1 (awV nCid 1) 1 = ([awR 2 [awV nBob 1, awV nCid 2, awV nCid 1]], 0) := by kernel_rfl
theorem aw_people : Vw.people (awR 2 [awV nBob 1, awV nCid 2, awV nCid 1]) 1 = [nBob, nCid] := by kernel_rfl
theorem awV_fits (who : ByteArray) (k : Int) (h : who.size ≤ 100) : (awV who k).Fits := ⟨by show who.size ≤ _; omega, Nat.zero_le _, by show 1 ≤ _; omega⟩
theorem awR_fits (st : Int) (vs : List Vt) (h : vs.length ≤ 100) (hv : ∀ v ∈ vs, v.Fits) : (awR st vs).Fits := ⟨by show 3 ≤ _; omega, by show 4 ≤ _; omega, by show 1 ≤ _; omega, by show vs.length ≤ _; omega, hv⟩
set_option maxHeartbeats 4000000 in
set_option maxRecDepth 100000 in
theorem awV_any (who : ByteArray) (k : Int) (g gi : Nat) (w : World) (hb : Blk w g 25 #[.slice (some ⟨gi, 0, none⟩) 1 1]) :
    Calls Tryz.prog 39 #[.string who, .int .i64 k, .pointer (some ⟨g, 0, none⟩)] w (Ret (.agg #[.string who, .int .i64 k, .string ⟨#[]⟩, .slice (some ⟨gi, 0, none⟩) 1 1]) w) := by
  obtain ⟨hc0, hf0, hl0⟩ := hb.all
  go_enter Tryz.func39, Tryz.ntmps39
  have hx := Ext.refl w
  go_wp2_with fail
  refine bodyPost_ret (v := .agg #[.string who, .int .i64 k, .string ⟨#[]⟩, .slice (some ⟨gi, 0, none⟩) 1 1]) ?_ rfl ?_
  · simp only [results, Tryz.results39]
    go_simp
  · exact ⟨rfl, EX⟩

/-- One digest. -/
theorem Lst.two (w : World) (x y : ByteArray) : Lst (w.alloc (.cells #[.string x, .string y] 9)) (some ⟨w.heap.size, 0, none⟩) 2 [x, y] := by
  refine ⟨rfl, fun _ => ⟨w.heap.size, 0, rfl, by simp, fun j hj => ?_⟩⟩
  have hb := Blk.new' (w := w) (g := w.heap.size) (cs := #[.string x, .string y]) (t := 9) rfl
  rw [hb.cell, Nat.zero_add]
  rcases (by omega : j = 0 ∨ j = 1) with rfl | rfl <;> rfl
theorem Ds.one {w : World} {g : Nat} {d : Dg} (h : Blk w g 69 d.cells.toArray) : Ds w All (some ⟨g, 0, none⟩) [d] := by
  refine ⟨[d.cells], rfl, fun c hc => ?_, fun _ => ⟨g, 0, rfl, h.lt, trivial, fun j v hv => ?_⟩, fun i c x hc hx => ?_⟩
  · obtain rfl : c = d.cells := by simpa using hc
    exact Dg.cells_length d
  · rw [Nat.zero_add, h.cell, ← hv]
    simp
  · cases i with
    | zero =>
      obtain rfl : d.cells = c := by simpa using hc
      obtain rfl : d = x := by simpa using hx
      rfl
    | succ i => simp at hc
set_option maxHeartbeats 16000000 in
set_option maxRecDepth 100000 in
theorem awake55_any (w : World) (hg : Glob w) : Calls Tryz.prog 10 #[] w (Ret (.bool true) w) := by
  have HG := Lib.hid hg
  clear hg
  go_enter Tryz.func10, Tryz.ntmps10
  have hx := Ext.refl w
  go_wp2_with fail
  have hb0 := Blk.alloc (Blk.new' (w := w) (g := w.heap.size) (cs := dg1.cells.toArray) (t := 69) rfl) (.cells #[.slice (some ⟨w.heap.size, 0, none⟩) 1 1] 25)
  have hb1 := Blk.new' (w := w.alloc (.cells dg1.cells.toArray 69)) (g := w.heap.size + 1) (cs := #[.slice (some ⟨w.heap.size, 0, none⟩) 1 1]) (t := 25) (by simp)
  have HX := Lib.hid ((hx.alloc (.cells dg1.cells.toArray 69)).alloc (.cells #[.slice (some ⟨w.heap.size, 0, none⟩) 1 1] 25))
  rw [show #[Value.int IntKind.u8 1, Value.int IntKind.u8 0, Value.int IntKind.u8 0, Value.int IntKind.u8 0, Value.int IntKind.u8 0, Value.int IntKind.u8 0, Value.int IntKind.u8 0, Value.int IntKind.u8 0, Value.int IntKind.u8 0, Value.int IntKind.u8 0, Value.int IntKind.u8 0, Value.int IntKind.u8 0, Value.int IntKind.u8 0, Value.int IntKind.u8 0, Value.int IntKind.u8 0, Value.int IntKind.u8 0, Value.int IntKind.u8 0, Value.int IntKind.u8 0, Value.int IntKind.u8 0, Value.int IntKind.u8 0, Value.int IntKind.u8 0, Value.int IntKind.u8 0, Value.int IntKind.u8 0, Value.int IntKind.u8 0, Value.int IntKind.u8 0, Value.int IntKind.u8 0, Value.int IntKind.u8 0, Value.int IntKind.u8 0, Value.int IntKind.u8 0, Value.int IntKind.u8 0, Value.int IntKind.u8 0, Value.int IntKind.u8 0] = dg1.cells.toArray by kernel_rfl]
  generalize (w.alloc (.cells dg1.cells.toArray 69)).alloc (.cells #[.slice (some ⟨w.heap.size, 0, none⟩) 1 1] 25) = w0 at hb0 hb1 HX ⊢
  generalize w.heap.size + 1 = gx at hb1 ⊢
  generalize w.heap.size = g0 at hb0 hb1 ⊢
  have HD := Lib.hid (Ds.one hb0)
  have HB := Lib.hid hb1
  clear hx hb0 hb1
  generalize dg1.cells.toArray = dc
  refine (propose_any none 0 0 nAnn nMain (some ⟨g0, 0, none⟩) 1 1 [] [dg1] w0 (HG.out.ext HX.out) (Sls.nil 6 Rev w0 All) rfl (by omega) (by simp) (by decide) (by decide) HD.out rfl (by omega) (by omega)).mono ?_
  rw [aw_prop]
  rintro e w1 ⟨A1, n1, c1, rfl, hrv, hx0⟩
  obtain rfl : 1 = n1 := hrv.len
  have HR1 := Lib.hid hrv.reads
  clear hrv
  replace HD := Lib.hid (Ds.ext HD.out hx0)
  replace HB := Lib.hid (HB.out.ext hx0)
  replace HX := Lib.hid (HX.out.trans hx0)
  clear hx0
  dsimp only
  go_wp2_with fail
  refine (awV_any nBob 1 gx g0 _ HB.out).mono ?_
  rintro e v1 ⟨rfl, hx0⟩
  replace HD := Lib.hid (Ds.ext HD.out hx0)
  replace HB := Lib.hid (HB.out.ext hx0)
  replace HR1 := Lib.hid (Rs.ext HR1.out hx0)
  replace HX := Lib.hid (HX.out.trans hx0)
  clear hx0
  go_wp2_with fail
  refine (vote_any A1 1 c1 1 (awV nBob 1) 1 (some ⟨g0, 0, none⟩) 1 1 [awR 1 []] v1 (HG.out.ext HX.out) HR1.out rfl (by omega) (by simp; exact awR_fits 1 [] (by simp) (by simp)) HD.out rfl (by omega) (awV_fits _ _ (by decide))).mono ?_
  rw [aw_v1]
  rintro e u1 ⟨A2, n1, c2, rfl, hrv, hx0⟩
  obtain rfl : 1 = n1 := hrv.len
  have HR2 := Lib.hid hrv.reads
  clear hrv
  replace HD := Lib.hid (Ds.ext HD.out hx0)
  replace HB := Lib.hid (HB.out.ext hx0)
  replace HR1 := Lib.hid (Rs.ext HR1.out hx0)
  replace HX := Lib.hid (HX.out.trans hx0)
  clear hx0
  dsimp only
  go_wp2_with fail
  refine (awV_any nCid 2 gx g0 _ HB.out).mono ?_
  rintro e v2 ⟨rfl, hx0⟩
  replace HD := Lib.hid (Ds.ext HD.out hx0)
  replace HB := Lib.hid (HB.out.ext hx0)
  replace HR1 := Lib.hid (Rs.ext HR1.out hx0)
  replace HR2 := Lib.hid (Rs.ext HR2.out hx0)
  replace HX := Lib.hid (HX.out.trans hx0)
  clear hx0
  go_wp2_with fail
  refine (vote_any A2 1 c2 1 (awV nCid 2) 1 (some ⟨g0, 0, none⟩) 1 1 [awR 2 [awV nBob 1]] v2 (HG.out.ext HX.out) HR2.out rfl (by omega) (by simp; exact awR_fits _ _ (by simp) (by simp; exact awV_fits _ _ (by decide))) HD.out rfl (by omega) (awV_fits _ _ (by decide))).mono ?_
  rw [aw_v2]
  rintro e u2 ⟨A3, n1, c3, rfl, hrv, hx0⟩
  obtain rfl : 1 = n1 := hrv.len
  have HR3 := Lib.hid hrv.reads
  clear hrv
  replace HD := Lib.hid (Ds.ext HD.out hx0)
  replace HB := Lib.hid (HB.out.ext hx0)
  replace HR1 := Lib.hid (Rs.ext HR1.out hx0)
  replace HR2 := Lib.hid (Rs.ext HR2.out hx0)
  replace HX := Lib.hid (HX.out.trans hx0)
  clear hx0
  dsimp only
  go_wp2_with fail
  refine (awV_any nCid 1 gx g0 _ HB.out).mono ?_
  rintro e v3 ⟨rfl, hx0⟩
  replace HD := Lib.hid (Ds.ext HD.out hx0)
  replace HB := Lib.hid (HB.out.ext hx0)
  replace HR1 := Lib.hid (Rs.ext HR1.out hx0)
  replace HR2 := Lib.hid (Rs.ext HR2.out hx0)
  replace HR3 := Lib.hid (Rs.ext HR3.out hx0)
  replace HX := Lib.hid (HX.out.trans hx0)
  clear hx0
  go_wp2_with fail
  refine (vote_any A3 1 c3 1 (awV nCid 1) 1 (some ⟨g0, 0, none⟩) 1 1 [awR 3 [awV nBob 1, awV nCid 2]] v3 (HG.out.ext HX.out) HR3.out rfl (by omega) (by simp; exact awR_fits _ _ (by simp) (by simp; exact ⟨awV_fits _ _ (by decide), awV_fits _ _ (by decide)⟩)) HD.out rfl (by omega) (awV_fits _ _ (by decide))).mono ?_
  rw [aw_v3]
  rintro e u3 ⟨A4, n1, c4, rfl, hrv, hx0⟩
  obtain rfl : 1 = n1 := hrv.len
  have HR4 := Lib.hid hrv.reads
  clear hrv
  replace HD := Lib.hid (Ds.ext HD.out hx0)
  replace HB := Lib.hid (HB.out.ext hx0)
  replace HR1 := Lib.hid (Rs.ext HR1.out hx0)
  replace HR2 := Lib.hid (Rs.ext HR2.out hx0)
  replace HR3 := Lib.hid (Rs.ext HR3.out hx0)
  replace HX := Lib.hid (HX.out.trans hx0)
  clear hx0
  dsimp only
  obtain ⟨b2, o2, cs2, rfl, hl2, _, _, hr2, hv2⟩ := HR2.out.get (i := 0) rfl
  obtain ⟨E2, i2, j2, F2, p2, q2, rfl, _, _, _, _⟩ := hv2
  obtain ⟨d20, d21, d22, d23, d24, d25⟩ := cells6 hr2
  rw [Nat.zero_mul, Nat.add_zero] at d20 d21 d22 d23 d24 d25
  obtain ⟨b3, o3, cs3, rfl, hl3, _, _, hr3, hv3⟩ := HR3.out.get (i := 0) rfl
  obtain ⟨E3, i3, j3, F3, p3, q3, rfl, _, _, _, _⟩ := hv3
  obtain ⟨d30, d31, d32, d33, d34, d35⟩ := cells6 hr3
  rw [Nat.zero_mul, Nat.add_zero] at d30 d31 d32 d33 d34 d35
  obtain ⟨b4, o4, cs4, rfl, hl4, _, _, hr4, hv4⟩ := HR4.out.get (i := 0) rfl
  have HV4 := Lib.hid hv4
  obtain ⟨E4, i4, j4, F4, p4, q4, rfl, _, _, _, _⟩ := hv4
  obtain ⟨d40, d41, d42, d43, d44, d45⟩ := cells6 hr4
  rw [Nat.zero_mul, Nat.add_zero] at d40 d41 d42 d43 d44 d45
  have HA := Lib.hid (fun W (hW : Ext u3 W) => approvals_any _ _ W (Rev.steadfast.ext HV4.out hW) (awR_fits 2 [awV nBob 1, awV nCid 2, awV nCid 1] (by simp) (by simp; exact ⟨awV_fits _ _ (by decide), awV_fits _ _ (by decide), awV_fits _ _ (by decide)⟩)) (by show 3 ≤ _; omega))
  rw [aw_people, show [nBob, nCid].length = 2 from rfl] at HA
  simp only [awR] at d20 d21 d22 d23 d24 d25 d30 d31 d32 d33 d34 d35 d40 d41 d42 d43 d44 d45 HA
  clear HR1 HR2 HR3 HR4 HV4 hr2 hr3 hr4
  go_wp2_with fail
  refine (HA.out u3 (Ext.refl _)).mono ?_
  rintro e w8 ⟨A8, c8, rfl, hsl, hx0⟩
  have HX8 := Lib.hid (HX.out.trans hx0)
  have HS := Lib.hid hsl.1
  clear hx0 hsl HA HX HG HD HB d20 d21 d22 d23 d24 d25 d30 d31 d32 d33 d34 d35 d40 d41 d42 d43 d44 d45
  go_wp2_with fail
  refine (sequal_any A8 (some ⟨w8.heap.size, 0, none⟩) 2 c8 2 2 [nBob, nCid] [nBob, nCid] _ (HS.out.ext ((Ext.refl w8).alloc _)) (Lst.two w8 nBob nCid) (by omega) (by omega)).mono ?_
  rw [decide_eq_true rfl]
  rintro e w9 ⟨rfl, hx0⟩
  have HX9 := Lib.hid ((HX8.out.alloc _).trans hx0)
  clear hx0 HX8 HS
  go_wp2_with fail
  go_ret
  exact Ret.mk rfl HX9.out
end Go.Proofs.YtojfgidoobgcaaaGreatDoor
