/- Walks: ignore: what the nearest file's rules decide. Walks: ignore: whether a path is ignored. -/
import Derived.Test.YtnjcifppkijanaaGreatDoorPI
set_option linter.unusedSimpArgs false
set_option linter.unusedVariables false
namespace Go.Proofs.YtnjcifppkijanaaGreatDoor
open Go Go.RowKit Go.Shelf
attribute [local go_sem] Oper.semAt_some

namespace Ig
/-- What a path's file says where nothing before it decides. -/
theorem first_at {l s : List Fi} {path : List UInt8} {isDir : Bool} (ho : Own l) (hp : s.Perm l) (hs : s.Pairwise fun f g => g.dir.size ≤ f.dir.size) {k : Nat} {f : Fi} (hb : ∀ j, j < k → ∀ g, s[j]? = some g → dec path isDir g = none) (hk : s[k]? = some f) {b : Bool} (hd : dec path isDir f = some b) : selected l path isDir = b := by
  rw [selected_first ho (fun f => hp.mem_iff) hs]
  obtain ⟨hlt, e⟩ := List.getElem?_eq_some_iff.1 hk
  have hf : s.find? (fun f => (dec path isDir f).isSome) = some f := by
    rw [List.find?_eq_some_iff_getElem]
    refine ⟨by rw [hd]; rfl, k, hlt, e, fun j hj => ?_⟩
    rw [hb j hj _ (List.getElem?_eq_getElem (by omega))]
    rfl
  rw [hf]
  show ((dec path isDir f).getD false) = b
  rw [hd]
  rfl
theorem first_none {l s : List Fi} {path : List UInt8} {isDir : Bool} (ho : Own l) (hp : s.Perm l) (hs : s.Pairwise fun f g => g.dir.size ≤ f.dir.size) (hb : ∀ j, j < s.length → ∀ g, s[j]? = some g → dec path isDir g = none) : selected l path isDir = false := by
  rw [selected_first ho (fun f => hp.mem_iff) hs]
  have hf : s.find? (fun f => (dec path isDir f).isSome) = none := by
    rw [List.find?_eq_none]
    intro x hx
    obtain ⟨j, hj⟩ := List.getElem?_of_mem hx
    rw [hb j (List.getElem?_eq_some_iff.1 hj).1 x hj]
    simp
  rw [hf]
  rfl
theorem dec_at {path : List UInt8} {isDir : Bool} {f : Fi} {k i : Nat} {r : Ru} (hb : ∀ j, j < k → ∀ r, f.rules.reverse[j]? = some r → fitsR (L f.dir) path isDir r = false) (hi : f.rules[i]? = some r) (hk : i + (k + 1) = f.rules.length) (hf : fitsR (L f.dir) path isDir r = true) : dec path isDir f = some (!r.neg) := by
  have hk2 : f.rules.reverse[k]? = some r := by
    rw [List.getElem?_reverse (by omega), ← hi]
    congr 1
    omega
  obtain ⟨hlt, e⟩ := List.getElem?_eq_some_iff.1 hk2
  unfold dec
  have : f.rules.reverse.find? (fitsR (L f.dir) path isDir) = some r := by
    rw [List.find?_eq_some_iff_getElem]
    exact ⟨hf, k, hlt, e, fun j hj => by rw [hb j hj _ (List.getElem?_eq_getElem (by omega))]; rfl⟩
  rw [this]
  rfl
theorem dec_none {path : List UInt8} {isDir : Bool} {f : Fi} (hb : ∀ j, j < f.rules.length → ∀ r, f.rules.reverse[j]? = some r → fitsR (L f.dir) path isDir r = false) : dec path isDir f = none := by
  unfold dec
  have : f.rules.reverse.find? (fitsR (L f.dir) path isDir) = none := by
    rw [List.find?_eq_none]
    intro x hx
    obtain ⟨j, hj⟩ := List.getElem?_of_mem hx
    have := (List.getElem?_eq_some_iff.1 hj).1
    rw [hb j (by simpa using this) x hj]
    simp
  rw [this]
  rfl
theorem restV_none {dir p : ByteArray} {f : Fi} {d : Bool} (e : f.dir = dir) (h : (restV dir p).2 = false) : dec (L p) d f = none := by
  subst e
  refine dec_within ?_
  unfold within
  rw [restV_eq, h]
  rfl
end Ig
/-- Between two files of the search. -/
def Sel (w1 : World) (s : List Ig.Fi) (p : ByteArray) (d : Bool) (k : Nat) (W : World) : Prop := Ext w1 W ∧ ∀ j, j < k → ∀ f, s[j]? = some f → Ig.dec (Ig.L p) d f = none
/-- Between two rules. -/
def Sru (W2 : World) (f : Ig.Fi) (p : ByteArray) (d : Bool) (k : Nat) (W : World) : Prop := Ext W2 W ∧ ∀ j, j < k → ∀ r, f.rules.reverse[j]? = some r → Ig.fitsR (Ig.L f.dir) (Ig.L p) d r = false
/-- Where one is found. -/
def SFd (w : World) (b1 : Nat) (R : Bool) (W : World) : Prop := Blk W b1 4 #[.bool R] ∧ Ext w W
theorem Sel.into {w1 : World} {s : List Ig.Fi} {p : ByteArray} {d : Bool} {k : Nat} {W W' : World} (h : Sel w1 s p d k W) (hx : Ext W W') : Sel w1 s p d k W' := ⟨h.1.trans hx, h.2⟩
theorem Sru.into {w1 : World} {f : Ig.Fi} {p : ByteArray} {d : Bool} {k : Nat} {W W' : World} (h : Sru w1 f p d k W) (hx : Ext W W') : Sru w1 f p d k W' := ⟨h.1.trans hx, h.2⟩
theorem Sel.steady {w1 : World} {s : List Ig.Fi} {p : ByteArray} {d : Bool} {B : Nat} (hB : w1.heap.size ≤ B) (k : Nat) : Steady B (Sel w1 s p d k) := fun W W' row h hg hr => ⟨Ext.steadyV w1 hB W W' row h.1 hg hr, h.2⟩
theorem Sru.steady {w1 : World} {f : Ig.Fi} {p : ByteArray} {d : Bool} {B : Nat} (hB : w1.heap.size ≤ B) (k : Nat) : Steady B (Sru w1 f p d k) := fun W W' row h hg hr => ⟨Ext.steadyV w1 hB W W' row h.1 hg hr, h.2⟩
theorem SFd.steady {w : World} {b1 : Nat} {R : Bool} {B : Nat} (hB : w.heap.size ≤ B) : Steady B (SFd w b1 R) := fun W W' row h hg hr =>
  ⟨h.1.turned ⟨row, hg, fun r e => (hr r e).2⟩, Ext.steadyV w hB W W' row h.2 hg hr⟩
theorem Sel.next {w1 : World} {s : List Ig.Fi} {p : ByteArray} {d : Bool} {k : Nat} {f : Ig.Fi} {W : World} (h : Sel w1 s p d k W) (hf : s[k]? = some f) (hd : Ig.dec (Ig.L p) d f = none) : Sel w1 s p d (k + 1) W :=
  ⟨h.1, fun j hj g hg => by
    rcases Nat.lt_succ_iff_lt_or_eq.1 hj with h1 | rfl
    · exact h.2 j h1 g hg
    · rw [hf] at hg
      obtain rfl := Option.some.inj hg
      exact hd⟩
theorem Sru.next {w1 : World} {f : Ig.Fi} {p : ByteArray} {d : Bool} {k i : Nat} {r : Ig.Ru} {W : World} (h : Sru w1 f p d k W) (hr : f.rules[i]? = some r) (hi : i + (k + 1) = f.rules.length) (hb : Ig.fitsR (Ig.L f.dir) (Ig.L p) d r = false) : Sru w1 f p d (k + 1) W :=
  ⟨h.1, fun j hj x hx => by
    rcases Nat.lt_succ_iff_lt_or_eq.1 hj with h1 | rfl
    · exact h.2 j h1 x hx
    · rw [List.getElem?_reverse (by omega), show f.rules.length - 1 - j = i by omega, hr] at hx
      obtain rfl := Option.some.inj hx
      exact hb⟩
set_option maxHeartbeats 16000000 in
set_option maxRecDepth 100000 in
theorem selected_in (n0 : Nat) (hn0 : 9 ≤ n0) (A : Option Addr) (n c : Nat) (l : List Ig.Fi) (p : ByteArray) (d : Bool) (w : World) (hn : l.length = n) (hb : n ≤ 1000000) (hvs : Fis w All A l) (ho : Ig.Own l) (hf : Ig.Fits l) (hp : p.size ≤ 200) (hgl : Glob w) :
    CallsIn Fence.wide n0 Tryz.prog 76 #[.slice A n c, .agg #[.string p, .bool d]] w (fun e w' => e = .returned (.bool (Ig.selected l (Ig.L p) d)) ∧ Ext w w') := by
  have hx0 := ((Ext.refl w).alloc (.cells #[.string p, .bool d] 98)).alloc (.cells #[.bool false] 4)
  have HX0 := Lib.hid hx0
  have HB0 := Lib.hid (Blk.alloc (Blk.new' (w := w) (g := w.heap.size) (cs := #[.string p, .bool d]) (t := 98) rfl) (.cells #[.bool false] 4))
  have HB1 := Lib.hid (Blk.new' (w := w.alloc (.cells #[.string p, .bool d] 98)) (g := w.heap.size + 1) (cs := #[.bool false]) (t := 4) (by simp))
  obtain ⟨hcr, hfr, hlr⟩ := HB0.out.all
  have HNE := Lib.hid (nearest_any A n c l p d _ hn hb (Sls.ext FiR.steadfast hvs hx0))
  have HG := Lib.hid hgl
  have HF := Lib.hid hf
  have HO := Lib.hid ho
  have hln : l.length ≤ 1000000 := by omega
  have HLN := Lib.hid hln
  clear hn hvs ho hf hgl hln hx0
  refine callsIn_of_wp_marks Tryz.func76 rfl trivial ?_ rfl
  simp only [Tryz.ntmps76, List.size_toArray, List.length_cons, List.length_nil, Nat.reduceAdd, Nat.reduceSub, Array.replicate_succ, Array.replicate_zero, List.push_toArray, List.append_toArray, List.nil_append, List.cons_append]
  gi_wp2_with fail
  refine ⟨trivial, fun _ => (by omega), ?_⟩
  refine (callsIn_wide.2 HNE.out).mono ?_
  rintro e w1 ⟨z, zt, A', c', s, rfl, hp1, hs1, hfs, hbz, hbt, hx1⟩
  have HX1 := Lib.hid (HX0.out.trans hx1)
  have HT1 := Lib.hid (Blk.ext hx1 HB0.out)
  have HC1 := Lib.hid (Blk.ext hx1 HB1.out)
  have hsl : s.length ≤ 1000000 := by rw [hp1.length_eq]; exact HLN.out
  have HP1 := Lib.hid hp1
  have HS1 := Lib.hid hs1
  have HFS := Lib.hid hfs
  have hfd : ∀ f ∈ s, f.dir.size ≤ 1000000 := fun f hf => HF.out.dirs f (hp1.mem_iff.1 hf)
  have hfr' : ∀ f ∈ s, f.rules.length ≤ 1000000 := fun f hf => HF.out.rules f (hp1.mem_iff.1 hf)
  have HFD := Lib.hid hfd
  have HFR := Lib.hid hfr'
  have HW1 : Hid (w.heap.size + 2 ≤ w1.heap.size) := Lib.hid (by have := hx1.size_le; simpa using this)
  have HGV := Lib.hid (fun n1 (h1 : 3 ≤ n1) => near2_gives n1 h1 z zt A' s.length c' s p d rfl (by omega) hfd w1 hfs (Sel w1 s p d) (SFd w (w.heap.size + 1) (Ig.selected l (Ig.L p) d)) (fun k W h => ⟨Blk.ext h.1 hbz, Blk.ext h.1 hbt, h.1⟩) (fun k W W' h hx => h.into hx) (fun k W f h hf he => h.next hf (Ig.restV_none rfl he)))
  have HI0 : Hid (Sel w1 s p d 0 w1) := Lib.hid ⟨Ext.refl w1, fun j hj => absurd hj (Nat.not_lt_zero j)⟩
  clear hp1 hs1 hfs hbz hbt hx1 hfd hfr' hcr hfr hlr HNE HB0 HB1 HX0 hsl
  gi_wp2_with fail
  refine wpIn_range_leaveH (gf := 128) (lb := #[.pointer (some ⟨z, 0, none⟩), .pointer (some ⟨zt, 0, none⟩)]) rfl (enters_of Tryz.func128 (by kernel_rfl) rfl) (encs := fun x : Ig.Fi × List Value => #[.agg x.2.toArray]) (HGV.out (n0 - 1) (by omega)) (fun _ => rfl)
    (fun k x a' W => ∃ g, Sel w1 s p d k W ∧ s[k]? = some x.1 ∧ FiR w1 All x.2 x.1 ∧ Blk W g 32 x.2.toArray ∧ a' = { tmps := #[.slice A n c, .agg #[.string p, .bool d], undef, .pointer (some ⟨w.heap.size, 0, none⟩), .pointer (some ⟨w.heap.size + 1, 0, none⟩), .pointer (some ⟨g, 0, none⟩), undef, undef, undef, .slice A n c, .agg #[.string p, .bool d], .func (.func 128) #[] #[.pointer (some ⟨z, 0, none⟩), .pointer (some ⟨zt, 0, none⟩)], .agg x.2.toArray, undef, undef, undef, undef, undef, undef, undef, undef, undef, undef, undef, undef, undef, undef, undef, undef], defers := [] })
    (fun k => Sel.steady (Nat.le_refl _) k) ?stA (fun k x => Sel.steady (Nat.le_refl _) (k + 1)) (SFd.steady HX1.out.size_le) HI0.out ?assign ?body ?done ?stop
  case stA =>
    rintro k x a' W W' row ⟨g, h1, h2, h3, h4, h5⟩ hg hr
    exact ⟨g, Sel.steady (Nat.le_refl _) k W W' row h1 hg hr, h2, h3, h4.turned ⟨row, hg, fun r e => (hr r e).2⟩, h5⟩
  case assign =>
    rintro l' k ⟨x1, cs⟩ W K ⟨hA, hx1, hf, -⟩ hK
    have HA := Lib.hid hA
    have HK := Lib.hid hK
    have HF := Lib.hid hf
    have HX1' := Lib.hid hx1
    obtain ⟨A2, n2, m2, e, _, _, _⟩ := hf
    dsimp only at e
    subst e
    clear hA hK HGV HI0 hx1
    gi_wp2
    exact HK.out _ _ ((Ext.refl W).alloc _).keeps ⟨_, HA.out.into ((Ext.refl W).alloc _), HX1'.out, HF.out, Blk.new' rfl, rfl⟩
  case body =>
    rintro l' k ⟨f, cs⟩ a' W hlw ⟨r0, hr0⟩ ⟨g, hL, hx1, hf, hbg, rfl⟩
    clear HGV HI0
    dsimp only at hx1 hf hbg
    have hdz := HFD.out _ (List.mem_of_getElem? hx1)
    have hrz := HFR.out _ (List.mem_of_getElem? hx1)
    obtain ⟨A2, n2, m2, rfl, hn2, _, hru⟩ := hf
    have hxb := (Ext.refl W).alloc (.cells #[.slice A2 n2 m2] 23)
    have HGI := Lib.hid (fun n1 (h1 : 3 ≤ n1) => bwdu1_gives n1 h1 W.heap.size A2 n2 m2 f.rules hn2 (by omega) w1 hru (Sru (W.alloc (.cells #[.slice A2 n2 m2] 23)) f p d) (fun W' => KeepsOthers W W' ∧ SFd w (w.heap.size + 1) (Ig.selected l (Ig.L p) d) W') (fun k W' h => ⟨Blk.ext h.1 (Blk.new' rfl), (hL.1.trans hxb).trans h.1⟩) (fun k W W' h hx => h.into hx))
    have HBA := Lib.hid (bwdu_same A2 n2 m2 W)
    have HJ0 : Hid (Sru (W.alloc (.cells #[.slice A2 n2 m2] 23)) f p d 0 (W.alloc (.cells #[.slice A2 n2 m2] 23))) := Lib.hid ⟨Ext.refl _, fun j hj => absurd hj (Nat.not_lt_zero j)⟩
    have HXB := Lib.hid hxb
    have HL := Lib.hid hL
    have HFK := Lib.hid hx1
    have HBG := Lib.hid hbg
    have HN2 := Lib.hid hn2
    have HRL : Hid ((W.alloc (.cells #[.slice A2 n2 m2] 23)).heap[l']? = some (.loop r0)) := Lib.hid ((Below.block hxb l' (Array.getElem?_eq_some_iff.1 hr0).1).trans hr0)
    obtain ⟨hcg, hfg, hlg⟩ := hbg.all
    clear hL hx1 hbg hn2 hru hxb hr0 hrz
    gi_wp2_with fail
    refine ⟨trivial, fun _ => (by omega), ?_⟩
    refine (callsIn_wide.2 HBA.out).mono ?_
    rintro e W2 ⟨rfl, rfl⟩
    clear hcg hfg hlg HBA
    gi_wp2_with fail
    refine wpIn_range_leaveN HRL.out (gf := 130) (lb := #[.pointer (some ⟨W.heap.size, 0, none⟩)]) rfl (enters_of Tryz.func130 (by kernel_rfl) rfl) (encs := fun x : Nat × Ig.Ru => #[.int .i64 x.1, .agg #[.bool x.2.neg, .bool x.2.dirOnly, .bool x.2.anch, .string x.2.glob]]) (HGI.out _ (by omega)) (fun _ => rfl)
      (fun k' x a' W' => ∃ g', Sru (W.alloc (.cells #[.slice A2 n2 m2] 23)) f p d k' W' ∧ x.1 + (k' + 1) = n2 ∧ f.rules[x.1]? = some x.2 ∧ Blk W' g' 60 #[.bool x.2.neg, .bool x.2.dirOnly, .bool x.2.anch, .string x.2.glob] ∧ a' = { tmps := #[.slice A n c, .agg #[.string p, .bool d], undef, .pointer (some ⟨w.heap.size, 0, none⟩), .pointer (some ⟨w.heap.size + 1, 0, none⟩), .pointer (some ⟨g, 0, none⟩), undef, .pointer (some ⟨g', 0, none⟩), undef, .slice A n c, .agg #[.string p, .bool d], .func (.func 128) #[] #[.pointer (some ⟨z, 0, none⟩), .pointer (some ⟨zt, 0, none⟩)], .agg #[.string f.dir, .slice A2 n2 m2], .pointer (some ⟨g, 1, none⟩), .slice A2 n2 m2, .func (.func 130) #[] #[.pointer (some ⟨W.heap.size, 0, none⟩)], .int .i64 x.1, .agg #[.bool x.2.neg, .bool x.2.dirOnly, .bool x.2.anch, .string x.2.glob], undef, undef, undef, undef, undef, undef, undef, undef, undef, undef, undef], defers := [] })
      (fun k' => Sru.steady (Nat.le_refl _) k') ?stA2 (fun k' x => Sru.steady (Nat.le_refl _) (k' + 1)) (Steady.and (KeepsOthers.steady W HXB.out.size_le) (SFd.steady ((HX1.out.trans HL.out.1).trans HXB.out).size_le)) HJ0.out ?assign2 ?body2 ?done2 ?stop2
    case stA2 =>
      rintro k' x a' W' W'' row ⟨g', h1, h2, h3, h4, h5⟩ hg hr
      exact ⟨g', Sru.steady (Nat.le_refl _) k' W' W'' row h1 hg hr, h2, h3, h4.turned ⟨row, hg, fun r e => (hr r e).2⟩, h5⟩
    case assign2 =>
      rintro l2 k' ⟨x1, ⟨ne, dO, an, gb⟩⟩ W' K ⟨hA, hx1, hf⟩ hK
      have HA := Lib.hid hA
      have HK := Lib.hid hK
      have HF2 := Lib.hid hf
      have HX2 := Lib.hid hx1
      clear hA hK HGI HJ0 hx1 hf
      gi_wp2
      exact HK.out _ _ ((Ext.refl W').alloc _).keeps ⟨_, HA.out.into ((Ext.refl W').alloc _), HX2.out, HF2.out, Blk.new' rfl, rfl⟩
    case body2 =>
      rintro l2 k' ⟨x1, ⟨ne, dO, an, gb⟩⟩ a' W' - - ⟨g', hA, hx1, hf, hbr, rfl⟩
      clear HGI HJ0
      dsimp only at hx1 hf hbr
      have hxW := HXB.out.trans hA.1
      have hx1W := HL.out.1.trans hxW
      obtain ⟨R1, hR1⟩ : ∃ b, b = Ig.fitsR (Ig.L f.dir) (Ig.L p) d ⟨ne, dO, an, gb⟩ := ⟨_, rfl⟩
      have HHO : Hid (∀ V, Ext W' V → Calls Tryz.prog 103 #[.func (.func 104) #[.agg #[.bool ne, .bool dO, .bool an, .string gb, .string f.dir]] #[], .agg #[.string p, .bool d]] V (Ret (.bool R1) V)) := Lib.hid fun V hV => by rw [hR1]; exact holds_any ⟨ne, dO, an, gb⟩ f.dir p d V hdz hp (HG.out.ext ((HX1.out.trans hx1W).trans hV))
      have HZ0 : Hid (∀ V, Ext W' V → R1 = false → KeepsOthers W' V ∧ Sru (W.alloc (.cells #[.slice A2 n2 m2] 23)) f p d (k' + 1) V) := Lib.hid fun V hV e => ⟨hV.keeps, (hA.next hf (by rw [HN2.out]; exact hx1) (by rw [← hR1, e])).into hV⟩
      have HZ1 : Hid (∀ V, Ext W' V → R1 = true → KeepsOthers W' (V.setCell ⟨w.heap.size + 1, 0, none⟩ (.bool !ne)) ∧ KeepsOthers W (V.setCell ⟨w.heap.size + 1, 0, none⟩ (.bool !ne)) ∧ SFd w (w.heap.size + 1) (Ig.selected l (Ig.L p) d) (V.setCell ⟨w.heap.size + 1, 0, none⟩ (.bool !ne))) := Lib.hid fun V hV e => by
        refine ⟨hV.keeps.trans (KeepsOthers.setCell _ _ _), (hxW.trans hV).keeps.trans (KeepsOthers.setCell _ _ _), ?_, Ext.setCell (p := ⟨w.heap.size + 1, 0, none⟩) ((HX1.out.trans hx1W).trans hV) (by show w.heap.size ≤ w.heap.size + 1; omega) _⟩
        have hd : Ig.dec (Ig.L p) d f = some (!ne) := Ig.dec_at hA.2 hf (by rw [HN2.out]; exact hx1) (by rw [← hR1, e])
        rw [Ig.first_at HO.out HP1.out HS1.out HL.out.2 HFK.out hd]
        exact Blk.conv ((Blk.ext (hx1W.trans hV) HC1.out).set_ 0 (.bool !ne)) (by simp)
      have HB8 : Hid (∀ V, Ext W' V → Blk V w.heap.size 98 #[.string p, .bool d] ∧ Blk V (w.heap.size + 1) 4 #[.bool false] ∧ Blk V g 32 #[.string f.dir, .slice A2 n2 m2] ∧ Blk V g' 60 #[.bool ne, .bool dO, .bool an, .string gb]) := Lib.hid fun V hV => ⟨Blk.ext (hx1W.trans hV) HT1.out, Blk.ext (hx1W.trans hV) HC1.out, Blk.ext (hxW.trans hV) HBG.out, Blk.ext hV hbr⟩
      have hxp := (Ext.refl W').alloc (.cells #[.bool ne, .bool dO, .bool an, .string gb, .string f.dir] 139)
      have HXP := Lib.hid hxp
      obtain ⟨b1, b2, b3, b4⟩ := HB8.out _ (Ext.refl W')
      obtain ⟨hc3, hf3, hl3⟩ := b3.all
      obtain ⟨hc4, hf4, hl4⟩ := b4.all
      obtain ⟨hcp, hfp, hlp⟩ := (Blk.new' (w := W') (g := W'.heap.size) (cs := #[.bool ne, .bool dO, .bool an, .string gb, .string f.dir]) (t := 139) rfl).all
      obtain ⟨hct, hft, hlt⟩ := (HB8.out _ hxp).1.all
      clear hA hx1 hf hbr hR1 hxW hx1W b1 b2 b3 b4 hxp
      gi_wp2_with fail
      refine ⟨trivial, fun _ => (by omega), ?_⟩
      refine (callsIn_wide.2 (HHO.out _ HXP.out)).mono ?_
      rintro e V ⟨rfl, hxv⟩
      have HXV := Lib.hid (HXP.out.trans hxv)
      clear hc3 hf3 hl3 hc4 hf4 hl4 hcp hfp hlp hct hft hlt hxv
      cases R1 with
      | false =>
        clear HZ1
        gi_wp2_with fail
        exact HZ0.out _ HXV.out (by simp)
      | true =>
        clear HZ0
        obtain ⟨b1, b2, b3, b4⟩ := HB8.out _ HXV.out
        obtain ⟨hc4, hf4, hl4⟩ := b4.all
        obtain ⟨hc2, hf2, hl2⟩ := b2.all
        clear b1 b2 b3 b4
        gi_wp2_with fail
        exact HZ1.out _ HXV.out (by simp)
    case done2 =>
      intro W' hI
      have HE : Hid (KeepsOthers W W' ∧ Sel w1 s p d (k + 1) W') := Lib.hid ⟨(HXB.out.trans hI.1).keeps, (HL.out.into (HXB.out.trans hI.1)).next HFK.out (Ig.dec_none (by rw [HN2.out]; exact hI.2))⟩
      clear hI HGI HJ0
      gi_wp2_with fail
      exact HE.out
    case stop2 =>
      intro W' hX
      have HE := Lib.hid hX
      clear hX HGI HJ0
      gi_wp2_with fail
      exact HE.out
  case done =>
    intro D W hD hI hK
    have hD2 : w.heap.size + 2 ≤ D := Nat.le_trans HW1.out hD
    have HZ : Hid (Ig.selected l (Ig.L p) d = false) := Lib.hid (Ig.first_none HO.out HP1.out HS1.out hI.2)
    have hxI := HX1.out.trans hI.1
    have hbI := Blk.ext hI.1 HC1.out
    have hk6 : (W.setCell ⟨w.heap.size + 1, 0, none⟩ (.bool false)).heap[D]? = some (.deferred (some [])) := (KeepsOthers.setCell W ⟨w.heap.size + 1, 0, none⟩ _).same _ _ hK rfl
    have ht : Turned (W.setCell ⟨w.heap.size + 1, 0, none⟩ (.bool false)) ((W.setCell ⟨w.heap.size + 1, 0, none⟩ (.bool false)).putObj D (.deferred none)) := ⟨some D, grownBy_putObj' _ D _, fun r e => by cases e; exact ⟨_, hk6, rfl⟩⟩
    have b2 : Blk (W.setCell ⟨w.heap.size + 1, 0, none⟩ (.bool false)) (w.heap.size + 1) 4 #[.bool false] := Blk.conv (hbI.set_ 0 (.bool false)) (by simp)
    have HT := Lib.hid (b2.turned ht)
    have HX := Lib.hid ((Ext.setCell (p := ⟨w.heap.size + 1, 0, none⟩) hxI (by show w.heap.size ≤ w.heap.size + 1; omega) (.bool false)).putObj (D := D) (by omega) (.deferred none))
    have HK6 := Lib.hid hk6
    obtain ⟨hc2, hf2, hl2⟩ := hbI.all
    clear hI hK hD hD2 hk6 ht b2 HGV HI0 hxI hbI
    gi_wp2_with fail
    clear hc2 hf2 hl2
    have t2 : ∀ i, World.cell? _ ⟨w.heap.size + 1, i, none⟩ = _ := HT.out.cell
    refine ⟨by simp, .inl ⟨_, _, rfl, run_takeDeferred HK6.out, ?_⟩⟩
    refine ⟨.bool false, ?_, ?_⟩
    · simp only [results, Tryz.results76]
      go_simp
    · rw [HZ.out]
      exact ⟨rfl, HX.out⟩
  case stop =>
    intro D W hD hX hK
    obtain ⟨r2, hx⟩ := hX
    have HK := Lib.hid hK
    have hD2 : w.heap.size + 2 ≤ D := Nat.le_trans HW1.out hD
    have ht : Turned W (W.putObj D (.deferred none)) := ⟨some D, grownBy_putObj' W D _, fun r e => by cases e; exact ⟨_, HK.out, rfl⟩⟩
    have t2 : ∀ i, (W.putObj D (.deferred none)).cell? ⟨w.heap.size + 1, i, none⟩ = _ := (r2.turned ht).cell
    have HX := Lib.hid (hx.putObj (D := D) (by omega) (.deferred none))
    clear ht r2 hx hK HGV HI0
    gi_wp2_with fail
    refine ⟨by simp, .inl ⟨_, _, rfl, run_takeDeferred HK.out, ?_⟩⟩
    refine ⟨.bool (Ig.selected l (Ig.L p) d), ?_, ?_⟩
    · simp only [results, Tryz.results76]
      go_simp
    · exact ⟨rfl, HX.out⟩
theorem selected_any (A : Option Addr) (n c : Nat) (l : List Ig.Fi) (p : ByteArray) (d : Bool) (w : World) (hn : l.length = n) (hb : n ≤ 1000000) (hvs : Fis w All A l) (ho : Ig.Own l) (hf : Ig.Fits l) (hp : p.size ≤ 200) (hgl : Glob w) :
    Calls Tryz.prog 76 #[.slice A n c, .agg #[.string p, .bool d]] w (Ret (.bool (Ig.selected l (Ig.L p) d)) w) :=
  (callsIn_wide.1 (selected_in 9 (Nat.le_refl _) A n c l p d w hn hb hvs ho hf hp hgl)).mono fun e w' ⟨he, hx⟩ => ⟨he, hx⟩
end Go.Proofs.YtnjcifppkijanaaGreatDoor
namespace Go.Proofs.YtnjcifppkijanaaGreatDoor
open Go Go.RowKit Go.Shelf
namespace Ig
theorem ignored_hit {l : List Fi} {path : List UInt8} {isDir : Bool} {k : Nat} (h : path[k]? = some 47) (hs : selected l (path.take k) true = true) : ignored l path isDir = true := by
  unfold ignored
  rw [Bool.or_eq_true, List.any_eq_true]
  refine .inl ⟨path.take k, ?_, hs⟩
  unfold prefs
  exact List.mem_map.2 ⟨k, List.mem_filter.2 ⟨List.mem_range.2 (List.getElem?_eq_some_iff.1 h).1, by rw [h]; rfl⟩, rfl⟩
theorem ignored_miss {l : List Fi} {path : List UInt8} {isDir : Bool} (h : ∀ j, j < path.length → path[j]? = some 47 → selected l (path.take j) true = false) : ignored l path isDir = selected l path isDir := by
  unfold ignored
  have : (prefs path).any (fun q => selected l q true) = false := by
    rw [List.any_eq_false]
    intro q hq
    unfold prefs at hq
    obtain ⟨j, hj, rfl⟩ := List.mem_map.1 hq
    obtain ⟨h1, h2⟩ := List.mem_filter.1 hj
    rw [h j (List.mem_range.1 h1) (by simpa using h2)]
    simp
  rw [this, Bool.false_or]
theorem Fits.of_check {l : List Fi} (h : fcheck l = 0) : Fits l := by
  have h1 := (fcheck_zero.1 h).2
  refine ⟨fun f hf => ?_, fun f hf => ?_⟩
  · rcases h1.dirs f hf with h2 | h2
    · have : f.dir.size = 0 := by
        show f.dir.data.size = 0
        rw [ByteArray.toList_eq] at h2
        rw [← Array.length_toList, h2]
        rfl
      omega
    · have := path_size h2
      omega
  · have h3 := h1.rules f hf
    unfold print at h3
    split at h3
    · cases h3
    · omega
end Ig
set_option maxHeartbeats 4000000 in
set_option maxRecDepth 100000 in
theorem ignored_any (A : Option Addr) (n c : Nat) (l : List Ig.Fi) (p : ByteArray) (d : Bool) (w : World) (hn : l.length = n) (hb : n ≤ 1000000) (hvs : Fis w All A l) (ho : Ig.Own l) (hf : Ig.Fits l) (hp : p.size ≤ 200) (hgl : Glob w) :
    Calls Tryz.prog 54 #[.slice A n c, .string p, .bool d] w (Ret (.bool (Ig.ignored l (Ig.L p) d)) w) := by
  have HSE : Hid (∀ (q : ByteArray) (b : Bool) W, Ext w W → q.size ≤ 200 → Calls Tryz.prog 76 #[.slice A n c, .agg #[.string q, .bool b]] W (Ret (.bool (Ig.selected l (Ig.L q) b)) W)) := Lib.hid fun q b W hW hq => selected_any A n c l q b W hn hb (Sls.ext FiR.steadfast hvs hW) ho hf hq (hgl.ext hW)
  obtain ⟨R, hR⟩ : ∃ R, R = Ig.ignored l (Ig.L p) d := ⟨_, rfl⟩
  rw [← hR]
  have HR := Lib.hid hR
  have hx := Ext.refl w
  clear hn hvs ho hf hgl hR
  go_enter Tryz.func54, Tryz.ntmps54
  go_wp2_with fail
  go_loopw [10] (fun u wr => ∃ k : Nat, u = .int .i64 k ∧ k ≤ p.size ∧ Hid (∀ j, j < k → (Ig.L p)[j]? = some 47 → Ig.selected l ((Ig.L p).take j) true = false) ∧ Hid (Ext w wr)) (fun u _ => p.size - (intOf u).toNat)
  case atStart => exact ⟨0, rfl, Nat.zero_le _, Lib.hid (fun j hj => absurd hj (Nat.not_lt_zero j)), Lib.hid hx⟩
  case round =>
    clear hx
    rename World => wo
    obtain ⟨k, rfl, hk, HB, HX⟩ := hrel
    by_cases hlt : k < p.size
    · have hget : (Ig.L p)[k]? = some p[k] := by
        show p.data.toList[k]? = some p.data[k]
        rw [Array.getElem?_toList]
        exact Array.getElem?_eq_getElem hlt
      have HGE := Lib.hid hget
      clear hget
      by_cases h47 : p[k] = 47
      · have e1 : ((p[k].toNat : Int) == 47) = true := by rw [h47]; rfl
        rw [h47] at HGE
        have hsz : (p.extract 0 k).size ≤ 200 := by rw [ByteArray.size_extract]; omega
        have hle : Ig.L (p.extract 0 k) = (Ig.L p).take k := Pa.L_extract p 0 k
        have HS := Lib.hid (HSE.out (p.extract 0 k) true wo HX.out hsz)
        rw [hle] at HS
        generalize hsv : Ig.selected l ((Ig.L p).take k) true = b at HS
        have HSV := Lib.hid hsv
        clear hsv hsz hle
        go_wp2_with fail
        refine HS.out.mono ?_
        rintro e w1 ⟨rfl, hx1⟩
        have HX1 := Lib.hid (HX.out.trans hx1)
        clear hx1 HX HS
        cases b with
        | true =>
          have HV : Hid (R = true) := Lib.hid (by rw [HR.out]; exact Ig.ignored_hit HGE.out HSV.out)
          go_wp2_with fail
          go_ret
          exact ⟨by rw [HV.out]; rfl, HX1.out⟩
        | false =>
          have HB2 : Hid (∀ j, j < k + 1 → (Ig.L p)[j]? = some 47 → Ig.selected l ((Ig.L p).take j) true = false) := Lib.hid fun j hj h => by
            rcases Nat.lt_succ_iff_lt_or_eq.1 hj with h1 | rfl
            · exact HB.out j h1 h
            · exact HSV.out
          go_wp2_with fail
          go_roundw
          case rel => exact ⟨k + 1, rfl, hlt, HB2, HX1⟩
          case measure => simp [intOf]; omega
      · have e1 : ((p[k].toNat : Int) == 47) = false := byte_ne (n := 47) (by omega) h47
        have HB2 : Hid (∀ j, j < k + 1 → (Ig.L p)[j]? = some 47 → Ig.selected l ((Ig.L p).take j) true = false) := Lib.hid fun j hj h => by
          rcases Nat.lt_succ_iff_lt_or_eq.1 hj with h1 | rfl
          · exact HB.out j h1 h
          · rw [HGE.out] at h; exact absurd (Option.some.inj h) h47
        go_wp2_with fail
        go_roundw
        case rel => exact ⟨k + 1, rfl, hlt, HB2, HX⟩
        case measure => simp [intOf]; omega
    · obtain rfl : k = p.size := by omega
      have HS := Lib.hid (HSE.out p d wo HX.out hp)
      have HV : Hid (R = Ig.selected l (Ig.L p) d) := Lib.hid (by rw [HR.out]; exact Ig.ignored_miss HB.out)
      go_wp2_with fail
      refine HS.out.mono ?_
      rintro e w1 ⟨rfl, hx1⟩
      have HX1 := Lib.hid (HX.out.trans hx1)
      clear hx1 HX HS
      go_wp2_with fail
      go_ret
      exact ⟨by rw [HV.out]; rfl, HX1.out⟩
set_option maxHeartbeats 4000000 in
set_option maxRecDepth 100000 in
theorem Ignored_any (A : Option Addr) (n c : Nat) (l : List Ig.Fi) (p : ByteArray) (d : Bool) (w : World) (hn : l.length = n) (hb : n ≤ 1000000) (hvs : Fis w All A l) (hf : Ig.Fits l) (hp : p.size ≤ 1000000) (hgl : Glob w) :
    Calls Tryz.prog 23 #[.slice A n c, .string p, .bool d] w (Ret (.bool (Ig.Ignored l p d)) w) := by
  have HCH := Lib.hid (icheck_any A n c l w hvs hn (by omega) hf hgl)
  have HIP : Hid (∀ W, Ext w W → Calls Tryz.prog 49 #[.string p] W (Ret (.bool (Qm.isPath p)) W)) := Lib.hid fun W hW => iisPath_any p W (hgl.ext hW) (by omega)
  have HIG : Hid (Ig.fcheck l = 0 → Qm.isPath p = true → ∀ W, Ext w W → Calls Tryz.prog 54 #[.slice A n c, .string p, .bool d] W (Ret (.bool (Ig.ignored l (Ig.L p) d)) W)) := Lib.hid fun h1 h2 W hW => ignored_any A n c l p d W hn hb (Sls.ext FiR.steadfast hvs hW) (Ig.fcheck_zero.1 h1).2.own hf (Ig.path_size h2) (hgl.ext hW)
  obtain ⟨R, hR⟩ : ∃ R, R = Ig.Ignored l p d := ⟨_, rfl⟩
  rw [← hR]
  unfold Ig.Ignored at hR
  generalize Ig.fcheck l = fc at HCH HIG hR
  generalize Qm.isPath p = ip at HIP HIG hR
  generalize Ig.ignored l (Ig.L p) d = ig at HIG hR
  have HR := Lib.hid hR
  clear hn hvs hf hgl hR
  go_enter Tryz.func23, Tryz.ntmps23
  go_wp2_with fail
  refine HCH.out.mono ?_
  rintro e w1 ⟨rfl, hx1⟩
  have HX1 := Lib.hid hx1
  clear hx1 HCH
  cases hz : (fc == 0) with
  | false =>
    have hv : R = false := by rw [HR.out, decide_eq_false (by simpa using hz)]; rfl
    have HV := Lib.hid hv
    clear hv HR HIG HIP
    go_wp2_with fail
    go_ret
    exact ⟨by rw [HV.out]; rfl, HX1.out⟩
  | true =>
    obtain rfl : fc = 0 := by simpa using hz
    go_wp2_with fail
    refine (HIP.out _ HX1.out).mono ?_
    rintro e w2 ⟨rfl, hx2⟩
    have HX2 := Lib.hid (HX1.out.trans hx2)
    clear hx2 HX1 HIP
    cases ip with
    | false =>
      have hv : R = false := by rw [HR.out]; rfl
      have HV := Lib.hid hv
      clear hv HR HIG
      go_wp2_with fail
      go_ret
      exact ⟨by rw [HV.out]; rfl, HX2.out⟩
    | true =>
      have hv : R = ig := by rw [HR.out]; simp
      have HV := Lib.hid hv
      clear hv HR
      go_wp2_with fail
      refine (HIG.out (by simp) (by simp) _ HX2.out).mono ?_
      rintro e w3 ⟨rfl, hx3⟩
      have HX3 := Lib.hid (HX2.out.trans hx3)
      clear hx3 HX2 HIG
      go_wp2_with fail
      go_ret
      exact ⟨by rw [HV.out]; rfl, HX3.out⟩
end Go.Proofs.YtnjcifppkijanaaGreatDoor
