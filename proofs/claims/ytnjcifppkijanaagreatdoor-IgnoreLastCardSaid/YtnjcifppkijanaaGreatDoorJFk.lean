/- Walks: ignore: a tree without what is ignored. -/
import Derived.Test.YtnjcifppkijanaaGreatDoorPJ
import Derived.Test.YtnjcifppkijanaaGreatDoorTd
set_option linter.unusedSimpArgs false
set_option linter.unusedVariables false
namespace Go.Proofs.YtnjcifppkijanaaGreatDoor
open Go Go.RowKit Go.Shelf
/-- The outcome of a filter: a tree and an error. -/
def GivesF (r : List Pf × Int) (w : World) (e : Ending) (w' : World) : Prop := ∃ A n c, e = .returned (.tuple #[.slice A n c, .int .i64 r.2]) ∧ r.1.length = n ∧ n ≤ c ∧ Trs w' A r.1 ∧ Hi w.heap.size A ∧ Ext w w'
theorem GivesF.none {k : Int} {w w' : World} (hx : Ext w w') : GivesF ([], k) w (.returned (.tuple #[.slice none 0 0, .int .i64 k])) w' := ⟨_, 0, 0, rfl, rfl, Nat.le_refl _, Trs.nil _ _, (fun a ha => nomatch ha), hx⟩
/-- A plain file, as it lies. -/
def PlR : Reads Pf := fun _ _ c f => c = [.string f.path, .int .i64 f.ty, .int .i64 f.mode, .string f.data]
theorem PlR.steadfast : Steadfast PlR := ⟨fun h _ => h, fun h _ => h, fun h => h⟩
theorem PlR.one {w : World} {F : Nat → Prop} {c : List Value} {f : Pf} (h : PlR w F c f) : ∀ u ∈ c, Value.oneCell' u = true := by
  obtain rfl : c = _ := h
  intro u hu
  simp at hu
  rcases hu with rfl | rfl | rfl | rfl <;> rfl
theorem plInfo : ∃ i z, Tryz.prog.info? 54 = some i ∧ i.zero = some z ∧ i.size = 4 ∧ i.bytes = 48 ∧ z.cells.size = 4 := by
  have h : (Tryz.prog.info? 54).map (fun i => (i.zero.map (·.cells.size), i.size, i.bytes)) = some (some 4, 4, 48) := by kernel_rfl
  cases hi : Tryz.prog.info? 54 with
  | none => rw [hi] at h; cases h
  | some i =>
    rw [hi] at h
    simp only [Option.map_some, Option.some.injEq, Prod.mk.injEq] at h
    obtain ⟨h1, h2, h3⟩ := h
    cases hz : i.zero with
    | none => rw [hz] at h1; cases h1
    | some z => exact ⟨i, z, rfl, hz, h2, h3, by rw [hz] at h1; simpa using h1⟩
theorem plcells : ∀ {cs : List (List Value)} {l : List Pf} {w : World} {F : Nat → Prop}, cs.length = l.length → (∀ (i : Nat) c x, cs[i]? = some c → l[i]? = some x → PlR w F c x) → cs.flatten = fl l
  | [], [], _, _, _, _ => rfl
  | [], _ :: _, _, _, h, _ => nomatch h
  | _ :: _, [], _, _, h, _ => nomatch h
  | c :: cs, f :: l, w, F, h, hr => by
    have ih := plcells (cs := cs) (l := l) (w := w) (F := F) (by simpa using h) (fun i c x hc hx => hr (i + 1) c x (by simpa using hc) (by simpa using hx))
    obtain rfl : c = _ := hr 0 c f rfl rfl
    rw [List.flatten_cons, ih]
    rfl
theorem trs_of_sls {w : World} {F : Nat → Prop} {A : Option Addr} {l : List Pf} (h : Sls 4 PlR w F A l) : Trs w A l := fun h0 => by
  obtain ⟨cs, h1, h2, h3, h4⟩ := h
  obtain ⟨b, o, hA, hb, _, hr⟩ := h3 h0
  exact ⟨b, o, hA, hb, by rw [← plcells h1 h4]; exact hr⟩
theorem filter_snoc (l : List Ig.Fi) {t : List Pf} {k : Nat} {f : Pf} (h : t[k]? = some f) : (t.take (k + 1)).filter (Ig.keep l) = (t.take k).filter (Ig.keep l) ++ if Ig.keep l f = true then [f] else [] := by
  rw [take_snoc h, List.filter_append]
  congr 1
  cases hk : Ig.keep l f
  · simp [hk]
  · simp [hk]
theorem filter_le (l : List Ig.Fi) (t : List Pf) (k : Nat) : ((t.take k).filter (Ig.keep l)).length ≤ k := Nat.le_trans (List.length_filter_le _ _) (by rw [List.length_take]; omega)
set_option maxHeartbeats 8000000 in
set_option maxRecDepth 100000 in
theorem filter_any (A : Option Addr) (n c : Nat) (l : List Ig.Fi) (B : Option Addr) (m b' : Nat) (t : List Pf) (w : World) (hn : l.length = n) (hb : n ≤ 1000000) (hvs : Fis w All A l) (hf : Ig.Fits l) (ht : Trs w B t) (hm : t.length = m) (hbm : m ≤ 1000000) (hgl : Glob w) :
    Calls Tryz.prog 29 #[.slice A n c, .slice B m b'] w (GivesF (Ig.filt l t) w) := by
  have HCH := Lib.hid (icheck_any A n c l w hvs hn (by omega) hf hgl)
  have HCT : Hid (∀ W, Ext w W → Calls Tryz.prog 33 #[.slice B m b'] W (Ret (.int .i64 (Tr.checkTree t)) W)) := Lib.hid fun W hW => checktree_any B m b' t W (ht.ext hW) hm (by omega) (hgl.ext hW)
  have HIG : Hid (Ig.fcheck l = 0 → ∀ (q : ByteArray) (d : Bool), q.size ≤ 200 → ∀ W, Ext w W → Calls Tryz.prog 54 #[.slice A n c, .string q, .bool d] W (Ret (.bool (Ig.ignored l (Ig.L q) d)) W)) := Lib.hid fun h1 q d hq W hW => ignored_any A n c l q d W hn hb (Sls.ext FiR.steadfast hvs hW) (Ig.fcheck_zero.1 h1).2.own hf hq (hgl.ext hW)
  have HTR := Lib.hid ht
  have HM := Lib.hid hm
  obtain ⟨fc, hfc⟩ : ∃ z, z = Ig.fcheck l := ⟨_, rfl⟩
  obtain ⟨tc, htc⟩ : ∃ z, z = Tr.checkTree t := ⟨_, rfl⟩
  have HFI : Hid (Ig.filt l t = if fc ≠ 0 then ([], fc) else if tc ≠ 0 then ([], tc) else (t.filter (Ig.keep l), 0)) := Lib.hid (by rw [hfc, htc]; rfl)
  have HTC := Lib.hid htc
  obtain ⟨R, hR⟩ : ∃ R, R = Ig.filt l t := ⟨_, rfl⟩
  rw [← hR]
  rw [← hR] at HFI
  rw [← hfc] at HCH HIG
  rw [← htc] at HCT
  clear hn hvs hf hgl hR ht hm hfc htc
  go_enter Tryz.func29, Tryz.ntmps29
  go_wp2_with fail
  refine HCH.out.mono ?_
  rintro e w1 ⟨rfl, hx1⟩
  have HX1 := Lib.hid hx1
  clear hx1 HCH
  cases hz : (fc != 0) with
  | true =>
    have HV : Hid (R = ([], fc)) := Lib.hid (by rw [HFI.out, if_pos (by simpa using hz)])
    clear HIG HCT HFI
    go_wp2_with fail
    go_ret2
    rw [HV.out]
    exact GivesF.none HX1.out
  | false =>
    obtain rfl : fc = 0 := by simpa using hz
    go_wp2_with fail
    refine (HCT.out _ HX1.out).mono ?_
    rintro e w2 ⟨rfl, hx2⟩
    have HX2 := Lib.hid (HX1.out.trans hx2)
    clear hx2 HX1 HCT
    cases hz2 : (tc != 0) with
    | true =>
      have HV : Hid (R = ([], tc)) := Lib.hid (by rw [HFI.out, if_neg (by simp), if_pos (by simpa using hz2)])
      clear HIG HFI
      go_wp2_with fail
      go_ret2
      rw [HV.out]
      exact GivesF.none HX2.out
    | false =>
      obtain rfl : tc = 0 := by simpa using hz2
      have HV : Hid (R = (t.filter (Ig.keep l), 0)) := Lib.hid (by rw [HFI.out, if_neg (by simp), if_neg (by simp)])
      have HGD := Lib.hid (Tr.good_iff.1 HTC.out.symm)
      have HIG := Lib.hid (HIG.out (by simp))
      clear HFI hz hz2
      go_wp2_with fail
      go_loopw [8, 23] (fun o u wr => ∃ k : Nat, u = .int .i64 k ∧ k ≤ m ∧ Hid (OwnW 4 PlR 54 w wr w.heap.size All o ((t.take k).filter (Ig.keep l))) ∧ Hid (Ext w wr)) (fun _ u _ => m - (intOf u).toNat)
      case atStart => exact ⟨0, rfl, Nat.zero_le _, Lib.hid (OwnW.nil _ _ _ _ _ _ _), HX2⟩
      case round =>
        clear HX2
        rename World => wo
        obtain ⟨k, rfl, hk, HOW, HX⟩ := hrel
        by_cases hlt : k < m
        · have hkl : k < t.length := by rw [HM.out]; exact hlt
          have e0 : t[k]? = some (t[k]'hkl) := List.getElem?_eq_getElem hkl
          have hgd := HGD.out.el _ (List.getElem_mem hkl)
          obtain ⟨b, o, rfl, hbl, c0, c1, c2, c3⟩ := (HTR.out.ext HX.out).get e0
          generalize t[k]'hkl = f at e0 c0 c1 c2 c3 hgd
          have E0 := Lib.hid e0
          clear hkl e0
          have hpz := Ig.path_size (Tr.element_path hgd)
          have HFS := Lib.hid (filter_snoc l E0.out)
          obtain ⟨ig, hig⟩ : ∃ z, z = Ig.ignored l (Ig.L f.path) (f.ty == 4) := ⟨_, rfl⟩
          have HKE : Hid (Ig.keep l f = !ig) := Lib.hid (by rw [hig]; rfl)
          have HX1 := Lib.hid (HX.out.alloc (.cells #[.string f.path, .int .i64 f.ty, .int .i64 f.mode, .string f.data] 54))
          have HB1 := Lib.hid (Blk.new' (w := wo) (g := wo.heap.size) (cs := #[.string f.path, .int .i64 f.ty, .int .i64 f.mode, .string f.data]) (t := 54) rfl)
          have HCA : Hid (∀ W, Ext w W → Calls Tryz.prog 54 #[.slice A n c, .string f.path, .bool (f.ty == 4)] W (Ret (.bool ig) W)) := Lib.hid fun W hW => by rw [hig]; exact HIG.out f.path (f.ty == 4) hpz W hW
          obtain ⟨hcr, hfr, hlr⟩ := HB1.out.all
          clear hig hpz hgd
          obtain ⟨d4, hd4⟩ : ∃ z, z = (f.ty == 4) := ⟨_, rfl⟩
          have HD4 := Lib.hid hd4
          go_wp2_with fail
          refine (HCA.out _ HX1.out).mono ?_
          rintro e w3 ⟨rfl, hx3⟩
          have HX3 := Lib.hid (HX1.out.trans hx3)
          have HB3 := Lib.hid (Blk.ext hx3 HB1.out)
          have HOW3 := Lib.hid (HOW.out.ext (((Ext.refl wo).alloc _).trans hx3))
          clear hcr hfr hlr HX1 HB1 HCA HX HOW hx3 c0 c1 c2 c3
          obtain ⟨hcr, hfr, hlr⟩ := HB3.out.all
          cases ig with
          | true =>
            have HO4 : Hid (OwnW 4 PlR 54 w w3 w.heap.size All u8 ((t.take (k + 1)).filter (Ig.keep l))) := Lib.hid (by rw [HFS.out, HKE.out]; simpa using HOW3.out)
            go_wp2_with fail
            go_roundw
            case rel => exact ⟨k + 1, rfl, hlt, HO4, HX3⟩
            case measure => simp [intOf]; omega
          | false =>
            obtain ⟨i0, z0, hi0, hz0, hs0, hb0, hzk0⟩ := plInfo
            have HLE := Lib.hid (filter_le l t k)
            have hww := HX3.out.size_le
            have q1 : ((t.take k).filter (Ig.keep l)).length + 1 ≤ maxLen := by have := HLE.out; unfold maxLen; omega
            have q2 : (((t.take k).filter (Ig.keep l)).length + 1) * 48 ≤ 140737488355328 := by have := HLE.out; omega
            have q3 : w.heap.size ≤ (w3.alloc (.cells #[.string f.path, .int .i64 f.ty, .int .i64 f.mode, .string f.data] 54)).heap.size := by simp; omega
            have q4 := (Blk.new' (w := w3) (g := w3.heap.size) (cs := #[.string f.path, .int .i64 f.ty, .int .i64 f.mode, .string f.data]) (t := 54) rfl).range 0 [.string f.path, .int .i64 f.ty, .int .i64 f.mode, .string f.data] (fun j _ => by simp)
            have Q := Lib.hid (⟨q1, q2, q3, q4⟩ : _ ∧ _ ∧ _ ∧ _)
            clear q1 q2 q3 q4
            go_wp2_with (at_builtin; refine wpList_append_w (k := 4) (R := PlR) PlR.one w _ rfl (.tmp 35) (.tmp 37) 46 54 i0 z0 rfl Tryz.underlying46 hi0 hz0 hs0 hb0 hzk0 (by decide) w.heap.size (F := All) u8 ((t.take k).filter (Ig.keep l)) rfl (HOW3.out.ext ((Ext.refl w3).alloc _)) w3.heap.size 1 [.string f.path, .int .i64 f.ty, .int .i64 f.mode, .string f.data] f rfl Q.out.2.2.2 rfl rfl Q.out.1 Q.out.2.1 Q.out.2.2.1 ?_)
            intro g2 cap w4 how4 hgrow
            have HO4 := Lib.hid how4
            have HX4 : Hid (Ext w w4) := Lib.hid (Below.grown (HX3.out.alloc _) hgrow (HX3.out.alloc _).size_le (fun j e => (HOW3.out.block e).1))
            clear how4 hgrow
            go_wp2_with fail
            go_roundw
            case rel => exact ⟨k + 1, rfl, hlt, Lib.hid (by rw [HFS.out, HKE.out]; exact HO4.out), HX4⟩
            case measure => simp [intOf]; omega
        · obtain rfl : k = m := by omega
          have hv := HOW.out
          rw [← HM.out, List.take_length] at hv
          obtain ⟨A9, c9, rfl, hc9, hown⟩ := hv.slice
          have hhi : Hi w.heap.size A9 := fun a e => by
            obtain ⟨cs, h1, h2, ⟨h3, h5⟩, h4⟩ := hv
            rcases h5 with ⟨e0, _⟩ | ⟨g, cap, cur, e0, hb, _⟩
            · obtain rfl : A9 = none := by injection e0
              cases e
            · obtain rfl : A9 = some ⟨g, 0, none⟩ := by injection e0
              cases e
              exact hb
          obtain ⟨A8, c8, e8, _, hsl⟩ := hv.sls PlR.steadfast HX.out
          obtain ⟨rfl, rfl⟩ : A8 = A9 ∧ c8 = c9 := by injection e8 with e1 _ e2; exact ⟨e1.symm, e2.symm⟩
          have HS8 := Lib.hid (trs_of_sls hsl)
          have HH := Lib.hid hhi
          clear hv hown hhi hsl HOW
          go_wp2_with fail
          go_ret2
          rw [HV.out]
          exact ⟨A8, _, c8, rfl, rfl, hc9, HS8.out, HH.out, HX.out⟩
end Go.Proofs.YtnjcifppkijanaaGreatDoor
