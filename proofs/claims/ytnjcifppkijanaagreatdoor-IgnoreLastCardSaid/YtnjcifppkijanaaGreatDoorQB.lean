/- Walks: the reference's globs: a path split. Walks: the reference's globs: a glob read and checked. Walks: the reference: rules checked, and files. Walks: the reference: files checked, rules printed. -/
import Derived.Test.YtnjcifppkijanaaGreatDoorQA
import Derived.Test.YtnjcifppkijanaaGreatDoorPD
import Derived.Test.YtnjcifppkijanaaGreatDoorPK
import Derived.Test.YtnjcifppkijanaaGreatDoorPG
import Derived.Test.YtnjcifppkijanaaGreatDoorYj
set_option linter.unusedSimpArgs false
set_option linter.unusedVariables false
namespace Go.Proofs.YtnjcifppkijanaaGreatDoor
open Go Go.RowKit Go.Shelf
/-- A string as it lies. -/
def LnR : Reads (List UInt8) := fun _ _ c x => ∃ s : ByteArray, c = [.string s] ∧ Ig.L s = x
theorem LnR.steadfast : Steadfast LnR := ⟨fun h _ => h, fun h _ => h, fun h => h⟩
theorem LnR.one {w : World} {F : Nat → Prop} {c : List Value} {e : List UInt8} (h : LnR w F c e) : ∀ u ∈ c, Value.oneCell' u = true := by
  obtain ⟨s, rfl, _⟩ := h
  intro u hu
  obtain rfl : u = .string s := by simpa using hu
  rfl
theorem strInfo : ∃ i z, Tryz.prog.info? 9 = some i ∧ i.zero = some z ∧ i.size = 1 ∧ i.bytes = 16 ∧ z.cells.size = 1 := by
  have h : (Tryz.prog.info? 9).map (fun i => (i.zero.map (·.cells.size), i.size, i.bytes)) = some (some 1, 1, 16) := by kernel_rfl
  cases hi : Tryz.prog.info? 9 with
  | none => rw [hi] at h; cases h
  | some i =>
    rw [hi] at h
    simp only [Option.map_some, Option.some.injEq, Prod.mk.injEq] at h
    obtain ⟨h1, h2, h3⟩ := h
    cases hz : i.zero with
    | none => rw [hz] at h1; cases h1
    | some z => exact ⟨i, z, rfl, hz, h2, h3, by rw [hz] at h1; simpa using h1⟩
namespace Ig
/-- The components of a path. -/
def segs (l : List UInt8) : List (List UInt8) := if l = [] then [] else cut 47 l
/-- A path being split. -/
structure SpI (l : List UInt8) (f i : Nat) (ls : List (List UInt8)) : Prop where
  eq : cut 47 l = ls ++ cut 47 (l.drop f)
  clean : 47 ∉ (l.take i).drop f
  le : f ≤ i
  il : i ≤ l.length
  ln : ls.length ≤ f
theorem SpI.start (l : List UInt8) : SpI l 0 0 [] := ⟨rfl, by simp, Nat.le_refl _, Nat.zero_le _, Nat.le_refl _⟩
theorem SpI.miss {l : List UInt8} {f i : Nat} {ls : List (List UInt8)} {c : UInt8} (h : SpI l f i ls) (hc : l[i]? = some c) (h47 : c ≠ 47) : SpI l f (i + 1) ls := by
  refine ⟨h.eq, fun hm => ?_, Nat.le_succ_of_le h.le, (List.getElem?_eq_some_iff.1 hc).1, h.ln⟩
  rw [take_snoc hc, List.drop_append_of_le_length (by rw [List.length_take]; have := h.le; have := h.il; omega)] at hm
  rcases List.mem_append.1 hm with hm | hm
  · exact h.clean hm
  · exact h47 (List.mem_singleton.1 hm).symm
theorem SpI.hit {l : List UInt8} {f i : Nat} {ls : List (List UInt8)} (h : SpI l f i ls) (hc : l[i]? = some 47) : SpI l (i + 1) (i + 1) (ls ++ [(l.take i).drop f]) := by
  have hi := (List.getElem?_eq_some_iff.1 hc).1
  have e : l.drop f = (l.take i).drop f ++ 47 :: l.drop (i + 1) := by
    have h1 : l = l.take i ++ 47 :: l.drop (i + 1) := by
      conv => lhs; rw [← List.take_append_drop i l, drop_at hc]
    conv => lhs; rw [h1, List.drop_append_of_le_length (by rw [List.length_take]; have := h.le; omega)]
  refine ⟨?_, ?_, Nat.le_refl _, hi, ?_⟩
  · rw [h.eq, e, cut_app _ h.clean]
    simp
  · rw [List.drop_eq_nil_of_le (by rw [List.length_take]; omega)]
    simp
  · rw [List.length_append, List.length_singleton]
    have := h.ln
    have := h.le
    omega
theorem SpI.end {l : List UInt8} {f : Nat} {ls : List (List UInt8)} (h : SpI l f l.length ls) : cut 47 l = ls ++ [(l.take l.length).drop f] := by
  have := h.clean
  rw [List.take_length] at this ⊢
  rw [h.eq, cut_none this]
end Ig
/-- What Split hands back. -/
def SplF (l : List UInt8) (w : World) (e : Ending) (w' : World) : Prop := ∃ A n m, e = .returned (.slice A n m) ∧ (Ig.segs l).length = n ∧ n ≤ m ∧ Sls 1 LnR w' (fun b => w.heap.size ≤ b) A (Ig.segs l) ∧ Ext w w'
set_option maxHeartbeats 8000000 in
set_option maxRecDepth 100000 in
theorem rsplit32_any (s : ByteArray) (w : World) (hs : s.size ≤ 1000000) : Calls Tryz.prog 93 #[.string s] w (SplF (Ig.L s) w) := by
  have hlen : (Ig.L s).length = s.size := rfl
  have HO0 := Lib.hid (OwnW.lit 1 LnR 9 w w)
  have HX0 := Lib.hid ((Ext.refl w).alloc (.cells #[] 9))
  by_cases hss : Ig.L s = []
  · have hq : (s.toList == ([] : List UInt8)) = true := by rw [ByteArray.toList_eq]; simpa using hss
    have HSG : Hid (Ig.segs (Ig.L s) = []) := Lib.hid (if_pos hss)
    clear hss hlen
    go_enter Tryz.func93, Tryz.ntmps93
    go_wp2_with fail
    go_ret
    refine ⟨_, 0, 0, rfl, by rw [HSG.out]; rfl, Nat.le_refl _, by rw [HSG.out]; exact Sls.nil _ _ _ _, HX0.out⟩
  · have hq : (s.toList == ([] : List UInt8)) = false := by rw [ByteArray.toList_eq]; simpa using hss
    have HSG : Hid (Ig.segs (Ig.L s) = Ig.cut 47 (Ig.L s)) := Lib.hid (if_neg hss)
    clear hss
    go_enter Tryz.func93, Tryz.ntmps93
    go_wp2_with fail
    go_loopw [3, 4, 5] (fun u3 u4 u5 wr => ∃ (f i : Nat) (ls : List (List UInt8)), u4 = .int .i64 f ∧ u5 = .int .i64 i ∧ i ≤ s.size + 1 ∧ Hid (OwnW 1 LnR 9 w wr w.heap.size All u3 ls) ∧ Hid (Ext w wr) ∧ Hid ((i ≤ s.size ∧ Ig.SpI (Ig.L s) f i ls) ∨ (i = s.size + 1 ∧ ls = Ig.cut 47 (Ig.L s)))) (fun _ _ u _ => s.size + 1 - (intOf u).toNat)
    case atStart => exact ⟨0, 0, [], rfl, rfl, Nat.zero_le _, HO0, HX0, Lib.hid (.inl ⟨Nat.zero_le _, Ig.SpI.start _⟩)⟩
    case round =>
      clear HO0 HX0 hq
      rename_i u3
      rename World => wo
      obtain ⟨f, i, ls, rfl, rfl, his, HO, HX, HI⟩ := hrel
      by_cases hle : i ≤ s.size
      · have hsp : Ig.SpI (Ig.L s) f i ls := by
          rcases HI.out with h | h
          · exact h.2
          · omega
        have hfi := hsp.le
        have hln := hsp.ln
        have HSP := Lib.hid hsp
        have hex : Ig.L (s.extract f i) = ((Ig.L s).take i).drop f := Pa.L_extract s f i
        have HLN : Hid (LnR w All [.string (s.extract f i)] (((Ig.L s).take i).drop f)) := Lib.hid ⟨_, rfl, hex⟩
        obtain ⟨ie, iz, hie, hiz, his1, hib, hik⟩ := strInfo
        have HIE := Lib.hid (⟨hie, hiz, his1, hib, hik⟩ : _ ∧ _ ∧ _ ∧ _ ∧ _)
        have HBD : Hid (ls.length + 1 ≤ maxLen ∧ (ls.length + 1) * 16 ≤ 140737488355328 ∧ w.heap.size ≤ (wo.alloc (.cells #[.string (s.extract f i)] 9)).heap.size ∧ (wo.alloc (.cells #[.string (s.extract f i)] 9)).rangeAt wo.heap.size 0 [.string (s.extract f i)]) := Lib.hid ⟨by unfold maxLen; omega, by omega, by have := HX.out.size_le; simp; omega, (Blk.new' (w := wo) (g := wo.heap.size) (cs := #[.string (s.extract f i)]) (t := 9) rfl).range 0 _ (fun j _ => by simp)⟩
        clear hex hie hiz his1 hib hik hsp HI
        by_cases hlt : i < s.size
        · have hne : ((i : Int) == (s.size : Int)) = false := beq_eq_false_iff_ne.2 (by omega)
          have hat := byteAt s hlt
          obtain ⟨c, hc⟩ : ∃ c, s[i] = c := ⟨_, rfl⟩
          rw [hc] at hat
          have HAT := Lib.hid hat
          clear hat
          by_cases h47 : c = 47
          · subst h47
            have HS2 := Lib.hid (HSP.out.hit HAT.out)
            go_wp2_with (at_builtin; refine wpList_append_w (k := 1) (R := LnR) LnR.one w _ rfl (.tmp 26) (.tmp 31) 91 9 ie iz rfl Tryz.underlying91 HIE.out.1 HIE.out.2.1 HIE.out.2.2.1 HIE.out.2.2.2.1 HIE.out.2.2.2.2 (by decide) w.heap.size (F := All) u3 ls rfl (HO.out.ext ((Ext.refl _).alloc _)) wo.heap.size 1 [.string (s.extract f i)] (((Ig.L s).take i).drop f) rfl HBD.out.2.2.2 rfl HLN.out HBD.out.1 HBD.out.2.1 HBD.out.2.2.1 ?_)
            intro g2 cap w5 how5 hgrow
            have HO5 := Lib.hid how5
            have HX5 : Hid (Ext w w5) := Lib.hid (Below.grown (HX.out.alloc _) hgrow (HX.out.alloc _).size_le (fun j e => (HO.out.block e).1))
            clear how5 hgrow
            go_wp2_with fail
            go_roundw
            case rel => exact ⟨i + 1, i + 1, _, rfl, rfl, by omega, HO5, HX5, Lib.hid (.inl ⟨hlt, HS2.out⟩)⟩
            case measure => simp [intOf]; omega
          · have e1 : ((c.toNat : Int) == 47) = false := byte_ne (n := 47) (by omega) h47
            have HS2 := Lib.hid (HSP.out.miss HAT.out h47)
            clear HBD HIE HLN
            go_wp2_with fail
            go_roundw
            case rel => exact ⟨f, i + 1, ls, rfl, rfl, by omega, HO, HX, Lib.hid (.inl ⟨hlt, HS2.out⟩)⟩
            case measure => simp [intOf]; omega
        · obtain rfl : i = s.size := by omega
          have HS2 := Lib.hid (HSP.out.end)
          go_wp2_with (at_builtin; refine wpList_append_w (k := 1) (R := LnR) LnR.one w _ rfl (.tmp 26) (.tmp 31) 91 9 ie iz rfl Tryz.underlying91 HIE.out.1 HIE.out.2.1 HIE.out.2.2.1 HIE.out.2.2.2.1 HIE.out.2.2.2.2 (by decide) w.heap.size (F := All) u3 ls rfl (HO.out.ext ((Ext.refl _).alloc _)) wo.heap.size 1 [.string (s.extract f s.size)] (((Ig.L s).take s.size).drop f) rfl HBD.out.2.2.2 rfl HLN.out HBD.out.1 HBD.out.2.1 HBD.out.2.2.1 ?_)
          intro g2 cap w5 how5 hgrow
          have HO5 := Lib.hid how5
          have HX5 : Hid (Ext w w5) := Lib.hid (Below.grown (HX.out.alloc _) hgrow (HX.out.alloc _).size_le (fun j e => (HO.out.block e).1))
          clear how5 hgrow
          go_wp2_with fail
          go_roundw
          case rel => exact ⟨s.size + 1, s.size + 1, _, rfl, rfl, by omega, HO5, HX5, Lib.hid (.inr ⟨rfl, HS2.out.symm⟩)⟩
          case measure => simp [intOf]
      · obtain rfl : i = s.size + 1 := by omega
        have hll : ls = Ig.cut 47 (Ig.L s) := by
          rcases HI.out with h | h
          · omega
          · exact h.2
        have hbig : ¬ ((s.size : Int) + 1 ≤ (s.size : Int)) := by omega
        obtain ⟨A9, c9, rfl, hc9, hs9⟩ := HO.out.read (G := fun b => w.heap.size ≤ b) (fun c x h => h) (fun b e => (HO.out.block e).1)
        subst hll
        have HS9 := Lib.hid hs9
        clear hs9 HI
        go_wp2_with fail
        go_ret
        exact ⟨A9, _, c9, rfl, by rw [HSG.out], hc9, by rw [HSG.out]; exact HS9.out, HX.out⟩
end Go.Proofs.YtnjcifppkijanaaGreatDoor
namespace Go.Proofs.YtnjcifppkijanaaGreatDoor
open Go Go.RowKit Go.Shelf
theorem cptInfo32 : ∃ i z, Tryz.prog.info? 122 = some i ∧ i.zero = some z ∧ i.size = 2 ∧ i.bytes = 32 ∧ z.cells.size = 2 := by
  have h : (Tryz.prog.info? 122).map (fun i => (i.zero.map (·.cells.size), i.size, i.bytes)) = some (some 2, 2, 32) := by kernel_rfl
  cases hi : Tryz.prog.info? 122 with
  | none => rw [hi] at h; cases h
  | some i =>
    rw [hi] at h
    simp only [Option.map_some, Option.some.injEq, Prod.mk.injEq] at h
    obtain ⟨h1, h2, h3⟩ := h
    cases hz : i.zero with
    | none => rw [hz] at h1; cases h1
    | some z => exact ⟨i, z, rfl, hz, h2, h3, by rw [hz] at h1; simpa using h1⟩
theorem RCpt.one {w : World} {F : Nat → Prop} {c : List Value} {e : Gl.Cp} (h : RCpt w F c e) : ∀ u ∈ c, Value.oneCell' u = true := by
  obtain ⟨A, n, m, rfl, _⟩ := h
  intro u hu
  simp only [List.mem_cons, List.not_mem_nil, or_false] at hu
  rcases hu with rfl | rfl <;> rfl
/-- A row of elements that look at no memory, while another row is turned. -/
theorem Sls.turn0 {α : Type} {k : Nat} {R : Reads α} (hR : ∀ w w' F G c x, R w F c x → R w' G c x) {w w' : World} {F : Nat → Prop} {A : Option Addr} {l : List α} {row : Option Nat} (h : Sls k R w F A l) (hg : w.grownBy w' row) (hF : ∀ b, F b → some b ≠ row) : Sls k R w' F A l := by
  obtain ⟨cs, k1, k2, k3, k4⟩ := h
  refine ⟨cs, k1, k2, fun h0 => ?_, fun i c x hc hl => hR _ _ _ _ _ _ (k4 i c x hc hl)⟩
  obtain ⟨b, o, hA, hb, hFb, hr⟩ := k3 h0
  refine ⟨b, o, hA, Nat.lt_of_lt_of_le hb hg.size, hFb, fun j v hv => ?_⟩
  have := hr j v hv
  unfold World.cell? at this ⊢
  dsimp only at this ⊢
  rw [hg.block b hb (hF b hFb)]
  exact this
theorem RCpt.turn {w w' : World} {F : Nat → Prop} {c : List Value} {x : Gl.Cp} {row : Option Nat} (h : RCpt w F c x) (hg : w.grownBy w' row) (hF : ∀ b, F b → some b ≠ row) : RCpt w' F c x := by
  obtain ⟨A, n, m, h1, h2, h3, h4⟩ := h
  exact ⟨A, n, m, h1, h2, h3, h4.turn0 (fun _ _ _ _ _ _ h => h) hg hF⟩
/-- Between two rounds of glob. -/
structure GlI (w0 : World) (S : Option Addr) (cs : List (List UInt8)) (k : Nat) (v : Value) (l : List Gl.Cp) (W : World) : Prop where
  read : Gl.comps (cs.take k) = some l
  len : l.length = k
  ext : Ext w0 W
  sg : Sls 1 LnR W (fun b => some b ≠ v.ownBlock) S cs
  own : OwnW 2 RCpt 122 W W w0.heap.size (fun b => some b ≠ v.ownBlock) v l
section
variable {w0 W W' : World} {S : Option Addr} {cs : List (List UInt8)} {k : Nat} {v : Value} {l : List Gl.Cp}
theorem GlI.into (h : GlI w0 S cs k v l W) (hx : Ext W W') : GlI w0 S cs k v l W' := ⟨h.read, h.len, h.ext.trans hx, Sls.ext LnR.steadfast h.sg hx, (h.own.ext hx).congr fun c x hc => RCpt.steadfast.ext hc hx⟩
/-- Ahead of the append. -/
theorem GlI.arg (h : GlI w0 S cs k v l W) (hx : Ext W W') {c : List Value} {x : Gl.Cp} (hc : RCpt W' (fun b => W.heap.size ≤ b) c x) :
    OwnW 2 RCpt 122 W' W' w0.heap.size (fun b => some b ≠ v.ownBlock ∧ b < W'.heap.size) v l ∧ RCpt W' (fun b => some b ≠ v.ownBlock ∧ b < W'.heap.size) c x := by
  refine ⟨(h.own.ext hx).congr fun c y hy => RCpt.steadfast.below (RCpt.steadfast.ext hy hx), RCpt.steadfast.mono (RCpt.steadfast.below hc) fun b hb => ⟨fun e => ?_, hb.2⟩⟩
  obtain ⟨_, cs', hB⟩ := h.own.block e.symm
  have := hB.lt
  have := hb.1
  omega
theorem GlI.next {W7 : World} {s : List UInt8} {x : Gl.Cp} {g cap : Nat} (h : GlI w0 S cs k v l W') (hk : cs[k]? = some s) (hc : Gl.comp s = some x)
    (hown : OwnW 2 RCpt 122 W' W7 w0.heap.size (fun b => some b ≠ v.ownBlock ∧ b < W'.heap.size) (.slice (some ⟨g, 0, none⟩) (l.length + 1) cap) (l ++ [x])) (hg : W'.grownBy W7 v.ownBlock) (hloc : v.ownBlock = some g ∨ g = W'.heap.size) :
    GlI w0 S cs (k + 1) (.slice (some ⟨g, 0, none⟩) (l.length + 1) cap) (l ++ [x]) W7 := by
  have hne : ∀ b, some b ≠ v.ownBlock ∧ b < W'.heap.size → some b ≠ (Value.slice (some ⟨g, 0, none⟩) (l.length + 1) cap).ownBlock := fun b hb e => by
    have e2 : b = g := by simpa [Value.ownBlock] using e
    subst e2
    rcases hloc with h1 | h1
    · exact hb.1 h1.symm
    · have := hb.2
      omega
  refine ⟨by rw [take_snoc hk, Gl.comps_snoc h.read, hc]; rfl, by rw [List.length_append, h.len]; rfl, Below.grown h.ext hg h.ext.size_le (fun b e => (h.own.block e).1), ?_, hown.congr fun c y hy => RCpt.steadfast.mono (RCpt.turn hy hg (fun b hb => hb.1)) hne⟩
  exact Sls.mono LnR.steadfast (Sls.turn0 (fun _ _ _ _ _ _ h => h) (h.sg.below LnR.steadfast) hg (fun b hb => hb.1)) hne
end
/-- What glob hands back. -/
def GlbF (l : List UInt8) (w : World) (e : Ending) (w' : World) : Prop := ∃ A n m, ∃ ok : Bool, e = .returned (.tuple #[.slice A n m, .bool ok]) ∧ Ext w w' ∧ ok = ((Gl.comps (Ig.cut 47 l)).isSome && decide (l.length ≤ 200)) ∧ ∀ cs, ok = true → Gl.comps (Ig.cut 47 l) = some cs → cs.length = n ∧ n ≤ m ∧ Sls 2 RCpt w' All A cs
theorem comps_segs (l : List UInt8) : (Gl.comps (Ig.cut 47 l)).isSome = (decide (0 < (Ig.segs l).length) && (Gl.comps (Ig.segs l)).isSome) := by
  unfold Ig.segs
  by_cases h : l = []
  · subst h; rfl
  · rw [if_neg h, decide_eq_true (List.length_pos_iff.2 (Ig.cut_ne 47 l)), Bool.true_and]
theorem comps_bad : ∀ {ls : List (List UInt8)} {k : Nat} {s : List UInt8}, ls[k]? = some s → Gl.comp s = none → Gl.comps ls = none
  | [], k, s, h, _ => by simp at h
  | x :: r, 0, s, h, hc => by
    obtain rfl : x = s := by simpa using h
    show (match Gl.comp x with | none => none | some c => (Gl.comps r).map (c :: ·)) = none
    rw [hc]
  | x :: r, k + 1, s, h, hc => by
    have ih := comps_bad (ls := r) (k := k) (by simpa using h) hc
    show (match Gl.comp x with | none => none | some c => (Gl.comps r).map (c :: ·)) = none
    rw [ih]
    cases Gl.comp x <;> rfl
set_option maxHeartbeats 8000000 in
set_option maxRecDepth 100000 in
theorem rglob_any (s : ByteArray) (w : World) (hs : s.size ≤ 1000000) : Calls Tryz.prog 72 #[.string s] w (GlbF (Ig.L s) w) := by
  have hlen : (Ig.L s).length = s.size := rfl
  have HX0 := Lib.hid ((Ext.refl w).alloc (.cells #[] 122))
  have HSP := Lib.hid (rsplit32_any s (w.alloc (.cells #[] 122)) hs)
  go_enter Tryz.func72, Tryz.ntmps72
  go_wp2_with fail
  refine HSP.out.mono ?_
  rintro e w2 ⟨A, n, m, rfl, hn, hnm, hsl, hx2⟩
  obtain ⟨cs, hcs⟩ : ∃ cs, cs = Ig.segs (Ig.L s) := ⟨_, rfl⟩
  rw [← hcs] at hn hsl
  have HCS := Lib.hid hcs
  have HN := Lib.hid hn
  have hn2 : n ≤ 1000001 := by
    rw [← hn, hcs]
    unfold Ig.segs
    split
    · simp
    · rw [Ig.cut_length]
      have : (Ig.L s).count 47 ≤ (Ig.L s).length := List.count_le_length
      omega
  have HG0 : Hid (GlI w A cs 0 (.slice (some ⟨w.heap.size, 0, none⟩) 0 0) [] w2) := Lib.hid
    ⟨rfl, rfl, HX0.out.trans hx2, Sls.mono LnR.steadfast hsl (fun b hb e => by
      have e2 : b = w.heap.size := by simpa [Value.ownBlock] using e
      have hb2 : (w.alloc (.cells #[] 122)).heap.size ≤ b := hb
      simp at hb2
      omega), (by
      obtain ⟨ds, a1, a2, a3, a4⟩ := (OwnW.lit 2 RCpt 122 w w).ext hx2
      exact ⟨ds, a1, a2, a3, fun i c x hc hl => by simp at hl⟩)⟩
  have hnl : n ≤ 1000001 := hn2
  clear hn hsl hx2 HSP HX0 hcs hn2
  go_wp2_with fail
  go_loopw [4, 6, 7, 8] (fun u4 u6 _ _ wr => ∃ (k : Nat) (l : List Gl.Cp), u6 = .int .i64 k ∧ k ≤ n ∧ Hid (GlI w A cs k u4 l wr)) (fun _ u _ _ _ => n - (intOf u).toNat)
  case atStart => exact ⟨0, [], rfl, Nat.zero_le _, HG0⟩
  case round =>
    clear HG0
    rename World => wo
    obtain ⟨k, l, rfl, hk, HG⟩ := hrel
    by_cases hlt : k < n
    · have hkl : k < cs.length := by rw [HN.out]; exact hlt
      obtain ⟨x, hx⟩ : ∃ x, cs[k]? = some x := ⟨_, List.getElem?_eq_getElem hkl⟩
      obtain ⟨b, o, c', rfl, hbl, -, -, hr, s', rfl, hsx⟩ := HG.out.sg.get hx
      have hr0 := hr 0 _ rfl
      rw [Nat.mul_one, Nat.add_zero] at hr0
      have HXK := Lib.hid hx
      have hs' : s'.size ≤ 1000000 := by
        have h1 : x ∈ Ig.segs (Ig.L s) := by rw [← HCS.out]; exact List.mem_of_getElem? hx
        unfold Ig.segs at h1
        split at h1
        · cases h1
        · have h2 := Ig.cut_len_le _ _ h1
          have h3 : s'.size = x.length := by rw [← hsx]; rfl
          omega
      have HPA := Lib.hid (rparse32_any s' wo hs')
      rw [hsx] at HPA
      clear hr hx hkl hsx
      go_wp2_with fail
      refine HPA.out.mono ?_
      rintro e w3 ⟨A', n', m', deep, ok, rfl, hx3, hcp⟩
      clear HPA
      cases hcc : Gl.comp x with
      | none =>
        rw [hcc] at hcp
        obtain rfl : ok = false := hcp
        have HBAD : Hid (Gl.comps (Ig.cut 47 (Ig.L s)) = none) := Lib.hid (by
          have h1 := comps_bad HXK.out hcc
          have h2 := comps_segs (Ig.L s)
          rw [← HCS.out, h1] at h2
          cases h3 : Gl.comps (Ig.cut 47 (Ig.L s)) with
          | none => rfl
          | some z => rw [h3] at h2; simp at h2)
        obtain ⟨A9, c9, rfl, hc9, -⟩ := HG.out.own.slice
        have HX3 := Lib.hid (HG.out.ext.trans hx3)
        clear hx3 hcc
        go_wp2_with fail
        go_ret2
        refine ⟨A9, _, c9, false, rfl, by repeat (first | exact HX3.out | refine Ext.alloc ?_ _), by rw [HBAD.out]; rfl, fun cs h => by cases h⟩
      | some cp =>
        rw [hcc] at hcp
        obtain ⟨h1, hcp⟩ : ok = true ∧ RCpt w3 (fun b => wo.heap.size ≤ b) [.bool deep, .slice A' n' m'] cp := hcp
        subst h1
        obtain ⟨ie, iz, hie, hiz, his1, hib, hik⟩ := cptInfo32
        have HIE := Lib.hid (⟨hie, hiz, his1, hib, hik⟩ : _ ∧ _ ∧ _ ∧ _ ∧ _)
        have hx5 : Ext wo ((w3.alloc (.cells #[.bool deep, .slice A' n' m'] 122)).alloc (.cells #[.bool deep, .slice A' n' m'] 122)) := (hx3.alloc _).alloc _
        have HX5 := Lib.hid hx5
        have hcp5 := RCpt.steadfast.ext hcp (((Ext.refl w3).alloc (.cells #[.bool deep, .slice A' n' m'] 122)).alloc (.cells #[.bool deep, .slice A' n' m'] 122))
        have HAR := Lib.hid (HG.out.arg hx5 hcp5)
        have HG5 := Lib.hid (HG.out.into hx5)
        have hll := HG.out.len
        have HBD : Hid (l.length + 1 ≤ maxLen ∧ (l.length + 1) * 32 ≤ 140737488355328 ∧ w.heap.size ≤ ((w3.alloc (.cells #[.bool deep, .slice A' n' m'] 122)).alloc (.cells #[.bool deep, .slice A' n' m'] 122)).heap.size ∧ ((w3.alloc (.cells #[.bool deep, .slice A' n' m'] 122)).alloc (.cells #[.bool deep, .slice A' n' m'] 122)).rangeAt (w3.heap.size + 1) 0 [.bool deep, .slice A' n' m']) := Lib.hid ⟨by unfold maxLen; omega, by omega, HG5.out.ext.size_le, (Blk.new' (w := w3.alloc (.cells #[.bool deep, .slice A' n' m'] 122)) (g := w3.heap.size + 1) (cs := #[.bool deep, .slice A' n' m']) (t := 122) (by simp)).range 0 _ (fun j _ => by simp)⟩
        have HCC := Lib.hid hcc
        clear hx3 hcp hcc hx5 hcp5 hll hie hiz his1 hib hik
        go_wp2_with (at_builtin; refine wpList_append_at (k := 2) (R := RCpt) RCpt.one _ _ rfl (.tmp 29) (.tmp 31) 86 122 ie iz rfl Tryz.underlying86 HIE.out.1 HIE.out.2.1 HIE.out.2.2.1 HIE.out.2.2.2.1 HIE.out.2.2.2.2 (by decide) w.heap.size u4 l rfl HAR.out.1 (w3.heap.size + 1) 1 [.bool deep, .slice A' n' m'] cp rfl HBD.out.2.2.2 rfl HAR.out.2 HBD.out.1 HBD.out.2.1 HBD.out.2.2.1 ?_)
        intro g2 cap w7 how7 hgrow hloc
        have HG7 := Lib.hid (HG5.out.next HXK.out HCC.out (how7.congr fun c x h => RCpt.steadfast.mono h fun b hb => by simpa using hb) hgrow (hloc.imp id fun h => by rw [h]; simp))
        clear how7 hgrow hloc HAR HBD HX5
        go_wp2_with fail
        go_roundw
        case rel => exact ⟨k + 1, _, rfl, hlt, HG7⟩
        case measure => simp [intOf]; omega
    · obtain rfl : k = n := by omega
      have hrd := HG.out.read
      rw [← HN.out, List.take_length, HCS.out] at hrd
      have HRD := Lib.hid hrd
      have HCO : Hid ((Gl.comps (Ig.cut 47 (Ig.L s))).isSome = decide (0 < k)) := Lib.hid (by
        rw [comps_segs, hrd]
        have : (Ig.segs (Ig.L s)).length = k := by rw [← HCS.out]; exact HN.out
        rw [this]
        simp)
      obtain ⟨A9, c9, e9, hc9, hs9⟩ := HG.out.own.read (G := All) (fun c x h => RCpt.steadfast.mono h (fun _ _ => trivial)) (fun _ _ => trivial)
      subst e9
      have hll := HG.out.len
      have HS9 := Lib.hid hs9
      have HX9 := Lib.hid HG.out.ext
      have HLL := Lib.hid hll
      have HCU : Hid (0 < k → Gl.comps (Ig.cut 47 (Ig.L s)) = some l) := Lib.hid (fun h0 => by
        rw [← hrd]
        unfold Ig.segs
        rw [if_neg]
        intro h
        have h1 := HN.out
        rw [HCS.out, h] at h1
        have h2 : (Ig.segs []).length = 0 := rfl
        omega)
      clear hrd hs9 HG hll
      rcases Nat.eq_zero_or_pos k with hk0 | hk0
      · have hd0 : ¬ ((0 : Int) < (k : Int)) := by omega
        have hkk : decide (0 < k) = false := decide_eq_false (by omega)
        rw [hkk] at HCO
        clear hkk
        go_wp2_with fail
        go_ret2
        exact ⟨A9, _, c9, false, rfl, HX9.out, by rw [HCO.out]; rfl, fun cs h => by cases h⟩
      · have hd0 : (0 : Int) < (k : Int) := by omega
        have hkk : decide (0 < k) = true := decide_eq_true hk0
        rw [hkk] at HCO
        clear hkk
        by_cases h200 : s.size ≤ 200
        · have h201 : (s.size : Int) ≤ 200 := by omega
          go_wp2_with fail
          go_ret2
          refine ⟨A9, _, c9, true, rfl, HX9.out, by rw [HCO.out, hlen, decide_eq_true h200]; rfl, fun cs' _ h => ?_⟩
          rw [HCU.out hk0] at h
          obtain rfl := Option.some.inj h
          exact ⟨rfl, hc9, HS9.out⟩
        · have h201 : ¬ ((s.size : Int) ≤ 200) := by omega
          go_wp2_with fail
          go_ret2
          exact ⟨A9, _, c9, false, rfl, HX9.out, by rw [HCO.out, hlen, decide_eq_false h200]; rfl, fun cs h => by cases h⟩
set_option maxRecDepth 100000 in
/-- quiltref32.Check. -/
theorem rgcheck_any (s : ByteArray) (w : World) : Calls Tryz.prog 43 #[.string s] w (Ret (.int .i64 (Ig.gcheck (Ig.L s))) w) := by
  have hlen : (Ig.L s).length = s.size := rfl
  by_cases h200 : 200 < s.size
  · have h201 : (200 : Int) < (s.size : Int) := by omega
    have hv : Ig.gcheck (Ig.L s) = 4 := if_pos h200
    have hx := Ext.refl w
    rw [hv]
    clear hv
    go_enter Tryz.func43, Tryz.ntmps43
    go_wp2_with fail
    go_ret
    exact ⟨rfl, hx⟩
  · have h201 : ¬ ((200 : Int) < (s.size : Int)) := by omega
    have HGL := Lib.hid (rglob_any s w (by omega))
    obtain ⟨R, hR⟩ : ∃ R, R = Ig.gcheck (Ig.L s) := ⟨_, rfl⟩
    have HR : Hid (R = if (Gl.comps (Ig.cut 47 (Ig.L s))).isSome then 0 else 3) := Lib.hid (by rw [hR]; exact if_neg h200)
    rw [← hR]
    clear hR
    go_enter Tryz.func43, Tryz.ntmps43
    go_wp2_with fail
    refine HGL.out.mono ?_
    rintro e w1 ⟨A, n, m, ok, rfl, hx1, hok, -⟩
    rw [hlen, decide_eq_true (by omega : s.size ≤ 200), Bool.and_true] at hok
    rw [← hok] at HR
    have HX1 := Lib.hid hx1
    clear hok hx1 HGL
    cases ok with
    | true =>
      go_wp2_with fail
      go_ret
      exact ⟨by rw [HR.out]; rfl, HX1.out⟩
    | false =>
      go_wp2_with fail
      go_ret
      exact ⟨by rw [HR.out]; rfl, HX1.out⟩
end Go.Proofs.YtnjcifppkijanaaGreatDoor
namespace Go.Proofs.YtnjcifppkijanaaGreatDoor
open Go Go.RowKit Go.Shelf
theorem byte_same (c : UInt8) : ((c.toNat : Int) == (c.toNat : Int)) = true := beq_self_eq_true _
theorem byte_diff {x c : UInt8} (h : x ≠ c) : ((x.toNat : Int) == (c.toNat : Int)) = false := beq_eq_false_iff_ne.2 fun e => h (UInt8.toNat_inj.1 (by exact_mod_cast e))
set_option maxHeartbeats 2000000 in
/-- quiltref39.has. -/
theorem rhas_any (s : ByteArray) (c : UInt8) (w : World) (hs : s.size ≤ 4611686018427387904) : Calls Tryz.prog 48 #[.string s, .int .u8 c.toNat] w (Ret (.bool ((Ig.L s).contains c)) w) := by
  obtain ⟨R, hR⟩ : ∃ R, R = (Ig.L s).contains c := ⟨_, rfl⟩
  have HR := Lib.hid hR
  have hx := Ext.refl w
  rw [← hR]
  clear hR
  go_enter Tryz.func48, Tryz.ntmps48
  go_wp2_with fail
  go_loopw [5] (fun u wr => ∃ k : Nat, u = .int .i64 k ∧ k ≤ s.size ∧ Hid (∀ j, j < k → (Ig.L s)[j]? ≠ some c) ∧ Hid (Ext w wr)) (fun u _ => s.size - (intOf u).toNat)
  case atStart => exact ⟨0, rfl, Nat.zero_le _, Lib.hid (fun j h => absurd h (Nat.not_lt_zero j)), Lib.hid hx⟩
  case round =>
    clear hx
    rename World => wo
    obtain ⟨k, rfl, hk, HJ, HX⟩ := hrel
    by_cases hlt : k < s.size
    · have hat := byteAt s hlt
      obtain ⟨x, hxx⟩ : ∃ x, s[k] = x := ⟨_, rfl⟩
      rw [hxx] at hat
      have HAT := Lib.hid hat
      clear hat
      by_cases h : x = c
      · subst h
        have e1 := byte_same x
        have HV : Hid (R = true) := Lib.hid (by rw [HR.out, List.contains_iff_mem]; exact List.mem_of_getElem? HAT.out)
        go_wp2_with fail
        go_ret
        exact ⟨by rw [HV.out]; rfl, HX.out⟩
      · have e1 := byte_diff h
        have HJ2 : Hid (∀ j, j < k + 1 → (Ig.L s)[j]? ≠ some c) := Lib.hid fun j hj => by
          rcases Nat.lt_succ_iff_lt_or_eq.1 hj with h1 | rfl
          · exact HJ.out j h1
          · rw [HAT.out]; exact fun e => h (Option.some.inj e)
        go_wp2_with fail
        go_roundw
        case rel => exact ⟨k + 1, rfl, hlt, HJ2, HX⟩
        case measure => simp [intOf]; omega
    · obtain rfl : k = s.size := by omega
      have HV : Hid (R = false) := Lib.hid (by
        rw [HR.out, Bool.eq_false_iff]
        intro h
        obtain ⟨j, hj⟩ := List.getElem?_of_mem (List.contains_iff_mem.1 h)
        exact HJ.out j (List.getElem?_eq_some_iff.1 hj).1 hj)
      go_wp2_with fail
      go_ret
      exact ⟨by rw [HV.out]; rfl, HX.out⟩
set_option maxHeartbeats 2000000 in
/-- quiltref39.marked. -/
theorem rmarked_any (s : ByteArray) (w : World) : Calls Tryz.prog 44 #[.string s] w (Ret (.bool (Ig.marked (Ig.L s))) w) := by
  obtain ⟨l, hl⟩ : ∃ l, l = Ig.L s := ⟨_, rfl⟩
  have hsz : s.size = l.length := by rw [hl]; rfl
  have htl : s.toList = l := by rw [hl, ByteArray.toList_eq]
  rw [← hl]
  have HL := Lib.hid hl
  have hx := Ext.refl w
  clear hl
  cases l with
  | nil =>
    have hq : (s.toList == ([] : List UInt8)) = true := by rw [htl]; rfl
    clear htl
    go_enter Tryz.func44, Tryz.ntmps44
    go_wp2_with fail
    go_ret
    exact ⟨rfl, hx⟩
  | cons c t =>
    have hq : (s.toList == ([] : List UInt8)) = false := by rw [htl]; rfl
    have h0 : 0 < s.size := by rw [hsz]; simp
    have hc : s[0] = c := by
      have h1 : (Ig.L s)[0]? = some c := by rw [← HL.out]; rfl
      rw [byteAt s h0] at h1
      exact Option.some.inj h1
    have HV : Hid (Ig.marked (c :: t) = (((c.toNat : Int) == 35) || ((c.toNat : Int) == 33))) := Lib.hid (by
      have h1 := byte_beq c 35 (by omega)
      have h2 := byte_beq c 33 (by omega)
      show ((some c == some 35) || (some c == some 33)) = _
      rw [show ((c.toNat : Int) == 35) = (c == 35) from h1, show ((c.toNat : Int) == 33) = (c == 33) from h2]
      simp)
    clear htl hsz
    cases h35 : ((c.toNat : Int) == 35) with
    | true =>
      go_enter Tryz.func44, Tryz.ntmps44
      go_wp2_with fail
      go_ret
      exact ⟨by rw [HV.out, h35]; rfl, hx⟩
    | false =>
      cases h33 : ((c.toNat : Int) == 33) with
      | true =>
        go_enter Tryz.func44, Tryz.ntmps44
        go_wp2_with fail
        go_ret
        exact ⟨by rw [HV.out, h35, h33]; rfl, hx⟩
      | false =>
        go_enter Tryz.func44, Tryz.ntmps44
        go_wp2_with fail
        go_ret
        exact ⟨by rw [HV.out, h35, h33]; rfl, hx⟩
set_option maxHeartbeats 4000000 in
set_option maxRecDepth 100000 in
/-- quiltref39.check. -/
theorem rrule_any (r : Ig.Ru) (w : World) : Calls Tryz.prog 73 #[.agg #[.bool r.neg, .bool r.dirOnly, .bool r.anch, .string r.glob]] w (Ret (.int .i64 (Ig.ruleErr r)) w) := by
  obtain ⟨neg, dirOnly, anch, gb⟩ := r
  obtain ⟨R, hR⟩ : ∃ R, R = Ig.ruleErr ⟨neg, dirOnly, anch, gb⟩ := ⟨_, rfl⟩
  rw [← hR]
  have hR2 : R = if Ig.gcheck (Ig.L gb) ≠ 0 then Ig.gcheck (Ig.L gb) else if (Ig.marked (Ig.L gb) || (Ig.L gb).contains 10 || (!anch && (Ig.L gb).contains 47)) = true then 1 else 0 := hR
  have HGC : Hid (∀ W, Calls Tryz.prog 43 #[.string gb] W (Ret (.int .i64 (Ig.gcheck (Ig.L gb))) W)) := Lib.hid fun W => rgcheck_any gb W
  have HMK : Hid (∀ W, Calls Tryz.prog 44 #[.string gb] W (Ret (.bool (Ig.marked (Ig.L gb))) W)) := Lib.hid fun W => rmarked_any gb W
  have HH1 : Hid (Ig.gcheck (Ig.L gb) = 0 → ∀ W, Calls Tryz.prog 48 #[.string gb, .int .u8 10] W (Ret (.bool ((Ig.L gb).contains 10)) W)) := Lib.hid fun h0 W => rhas_any gb 10 W (by have := (Ig.gcheck_zero h0).1; have h3 : gb.size = (Ig.L gb).length := rfl; omega)
  have HH2 : Hid (Ig.gcheck (Ig.L gb) = 0 → ∀ W, Calls Tryz.prog 48 #[.string gb, .int .u8 47] W (Ret (.bool ((Ig.L gb).contains 47)) W)) := Lib.hid fun h0 W => rhas_any gb 47 W (by have := (Ig.gcheck_zero h0).1; have h3 : gb.size = (Ig.L gb).length := rfl; omega)
  generalize Ig.gcheck (Ig.L gb) = gc at HGC HH1 HH2 hR2
  generalize Ig.marked (Ig.L gb) = mk at HMK hR2
  generalize (Ig.L gb).contains 10 = nl at HH1 hR2
  generalize (Ig.L gb).contains 47 = dp at HH2 hR2
  have HR := Lib.hid hR2
  have HX0 := Lib.hid ((Ext.refl w).alloc (.cells #[.bool neg, .bool dirOnly, .bool anch, .string gb] 60))
  have HB0 := Lib.hid (Blk.new' (w := w) (g := w.heap.size) (cs := #[.bool neg, .bool dirOnly, .bool anch, .string gb]) (t := 60) rfl)
  clear hR hR2
  obtain ⟨hc, hf, hl⟩ := HB0.out.all
  go_enter Tryz.func73, Tryz.ntmps73
  go_wp2_with fail
  refine (HGC.out _).mono ?_
  rintro e w1 ⟨rfl, hx1⟩
  have HX1 := Lib.hid (HX0.out.trans hx1)
  have HB1 := Lib.hid (Blk.ext hx1 HB0.out)
  clear hx1 HX0 HB0 hc hf hl
  cases hz : (gc != 0) with
  | true =>
    have HV : Hid (R = gc) := Lib.hid (by rw [HR.out, if_pos (by simpa using hz)])
    go_wp2_with fail
    go_ret
    exact ⟨by rw [HV.out]; rfl, HX1.out⟩
  | false =>
    obtain rfl : gc = 0 := by simpa using hz
    have HK1 := Lib.hid (HH1.out rfl)
    have HK2 := Lib.hid (HH2.out rfl)
    clear HH1 HH2
    have HR2 : Hid (R = if (mk || nl || (!anch && dp)) = true then 1 else 0) := Lib.hid (by rw [HR.out, if_neg (by simp)])
    obtain ⟨hc, hf, hl⟩ := HB1.out.all
    clear HR hz
    go_wp2_with fail
    refine (HMK.out _).mono ?_
    rintro e w2 ⟨rfl, hx1⟩
    have HX2 := Lib.hid (HX1.out.trans hx1)
    have HB2 := Lib.hid (Blk.ext hx1 HB1.out)
    clear hx1 HX1 HB1 hc hf hl
    cases mk with
    | true =>
      go_wp2_with fail
      go_ret
      exact ⟨by rw [HR2.out]; rfl, HX2.out⟩
    | false =>
      obtain ⟨hc, hf, hl⟩ := HB2.out.all
      go_wp2_with fail
      refine (HK1.out _).mono ?_
      rintro e w3 ⟨rfl, hx1⟩
      have HX3 := Lib.hid (HX2.out.trans hx1)
      have HB3 := Lib.hid (Blk.ext hx1 HB2.out)
      clear hx1 HX2 HB2 hc hf hl
      cases nl with
      | true =>
        go_wp2_with fail
        go_ret
        exact ⟨by rw [HR2.out]; rfl, HX3.out⟩
      | false =>
        obtain ⟨hc, hf, hl⟩ := HB3.out.all
        cases anch with
        | true =>
          go_wp2_with fail
          go_ret
          exact ⟨by rw [HR2.out]; rfl, HX3.out⟩
        | false =>
          go_wp2_with fail
          refine (HK2.out _).mono ?_
          rintro e w4 ⟨rfl, hx1⟩
          have HX4 := Lib.hid (HX3.out.trans hx1)
          clear hx1 HX3 HB3 hc hf hl
          cases dp with
          | true =>
            go_wp2_with fail
            go_ret
            exact ⟨by rw [HR2.out]; rfl, HX4.out⟩
          | false =>
            go_wp2_with fail
            go_ret
            exact ⟨by rw [HR2.out]; rfl, HX4.out⟩
set_option maxHeartbeats 4000000 in
set_option maxRecDepth 100000 in
/-- quiltref39.rules. -/
theorem rrules_any (A : Option Addr) (n c : Nat) (l : List Ig.Ru) (w : World) {F : Nat → Prop} (h : Rus w F A l) (hn : l.length = n) (hb : n ≤ 1000000000) :
    Calls Tryz.prog 47 #[.slice A n c] w (Ret (.int .i64 (Ig.print l).2) w) := by
  have HL := Lib.hid h
  have HN := Lib.hid hn
  have hx := Ext.refl w
  by_cases hbig : 100 < n
  · have hv : Ig.print l = ([], 4) := by unfold Ig.print; rw [if_pos (by omega)]
    have hbb : (100 : Int) < (n : Int) := by omega
    rw [hv]
    clear h hn hv
    go_enter Tryz.func47, Tryz.ntmps47
    go_wp2_with fail
    go_ret
    exact ⟨rfl, hx⟩
  have hbb : ¬ ((100 : Int) < (n : Int)) := by omega
  obtain ⟨R, hR⟩ : ∃ R, R = Ig.print l := ⟨_, rfl⟩
  have HR := Lib.hid hR
  have hnk : l.length ≤ 100 := by omega
  have HNK := Lib.hid hnk
  rw [← hR]
  clear h hn hR hnk
  go_enter Tryz.func47, Tryz.ntmps47
  go_wp2_with fail
  go_loopw [3, 4] (fun u _ wr => ∃ k : Nat, u = .int .i64 k ∧ k ≤ n ∧ Hid (∀ x ∈ l.take k, Ig.ruleErr x = 0) ∧ Hid (Ext w wr)) (fun u _ _ => n - (intOf u).toNat)
  case atStart => exact ⟨0, rfl, Nat.zero_le _, Lib.hid (by simp), Lib.hid hx⟩
  case round =>
    clear hx
    rename World => wo
    obtain ⟨k, rfl, hk, HE, HX⟩ := hrel
    by_cases hlt : k < n
    · have hkl : k < l.length := by rw [HN.out]; exact hlt
      have e0 : l[k]? = some l[k] := List.getElem?_eq_getElem _
      obtain ⟨b, oo, cs, rfl, hbl, -, -, hr, hcs⟩ := HL.out.get e0
      obtain rfl : cs = _ := hcs
      have c0 := (HX.out.cell (p := ⟨b, oo + k * 4, none⟩) hbl).trans (hr 0 _ rfl)
      have c1 := (HX.out.cell (p := ⟨b, oo + k * 4 + 1, none⟩) hbl).trans (hr 1 _ rfl)
      have c2 := (HX.out.cell (p := ⟨b, oo + k * 4 + 2, none⟩) hbl).trans (hr 2 _ rfl)
      have c3 := (HX.out.cell (p := ⟨b, oo + k * 4 + 3, none⟩) hbl).trans (hr 3 _ rfl)
      have E0 := Lib.hid e0
      clear hr e0
      generalize l[k] = r at c0 c1 c2 c3 E0
      clear hkl
      have HRU : Hid (∀ W, Calls Tryz.prog 73 #[.agg #[.bool r.neg, .bool r.dirOnly, .bool r.anch, .string r.glob]] W (Ret (.int .i64 (Ig.ruleErr r)) W)) := Lib.hid fun W => rrule_any r W
      obtain ⟨re, hre⟩ : ∃ re, re = Ig.ruleErr r := ⟨_, rfl⟩
      rw [← hre] at HRU
      have HRE := Lib.hid hre
      clear hre
      go_wp2_with fail
      refine (HRU.out _).mono ?_
      rintro e w1 ⟨rfl, hx1⟩
      have HX1 := Lib.hid (HX.out.trans hx1)
      clear hx1 HX HRU c0 c1 c2 c3
      cases hz : (re != 0) with
      | true =>
        have HV : Hid (R.2 = re) := Lib.hid (by rw [HR.out, Ig.print_bad HNK.out HE.out E0.out (by rw [← HRE.out]; simpa using hz), HRE.out])
        go_wp2_with fail
        go_ret
        exact ⟨by rw [HV.out]; rfl, HX1.out⟩
      | false =>
        obtain rfl : re = 0 := by simpa using hz
        have HE2 : Hid (∀ x ∈ l.take (k + 1), Ig.ruleErr x = 0) := Lib.hid fun x hx => by
          rw [take_snoc E0.out] at hx
          rcases List.mem_append.1 hx with hx | hx
          · exact HE.out x hx
          · rw [List.mem_singleton.1 hx]; exact HRE.out.symm
        go_wp2_with fail
        go_roundw
        case rel => exact ⟨k + 1, rfl, hlt, HE2, HX1⟩
        case measure => simp [intOf]; omega
    · obtain rfl : k = n := by omega
      have HV : Hid (R.2 = 0) := Lib.hid (by rw [HR.out, Ig.print_good HNK.out (fun r hr => HE.out r (by rw [← HN.out, List.take_length]; exact hr))])
      go_wp2_with fail
      go_ret
      exact ⟨by rw [HV.out]; rfl, HX.out⟩
end Go.Proofs.YtnjcifppkijanaaGreatDoor
namespace Go.Proofs.YtnjcifppkijanaaGreatDoor
open Go Go.RowKit Go.Shelf
theorem Ig.disorder_prev2 {l : List Ig.Fi} {k : Nat} {g : Ig.Fi} (h : l[k]? = some g) (e : ByteArray) : Op.bytesLess g.dir.toList e.toList = !Ig.disorder (Ig.prevD l (k + 1)) e := by
  show _ = !Ig.disorder ((l[k]?).map (·.dir)) e
  rw [h]
  show _ = !!Tr.lt g.dir e
  rw [Bool.not_not]
  rfl
set_option maxHeartbeats 8000000 in
set_option maxRecDepth 100000 in
/-- quiltref39.Check. -/
theorem rcheck39_any (A : Option Addr) (n c : Nat) (l : List Ig.Fi) (w : World) {F : Nat → Prop} (h : Fis w F A l) (hn : l.length = n) (hb : n ≤ 1000000000) (hf : Ig.Fits l) :
    Calls Tryz.prog 19 #[.slice A n c] w (Ret (.int .i64 (Ig.fcheck l)) w) := by
  have HL := Lib.hid h
  have HN := Lib.hid hn
  have HF := Lib.hid hf
  have hx := Ext.refl w
  by_cases hbig : 200 < n
  · have hv : Ig.fcheck l = 4 := by unfold Ig.fcheck; rw [if_pos (by omega)]
    have hbb : (200 : Int) < (n : Int) := by omega
    rw [hv]
    clear h hn hv hf
    go_enter Tryz.func19, Tryz.ntmps19
    go_wp2_with fail
    go_ret
    exact ⟨rfl, hx⟩
  have hbb : ¬ ((200 : Int) < (n : Int)) := by omega
  obtain ⟨R, hR⟩ : ∃ R, R = Ig.fcheck l := ⟨_, rfl⟩
  have HR : Hid (R = Ig.fgo (Ig.prevD l 0) (l.drop 0)) := Lib.hid (by rw [hR]; unfold Ig.fcheck; rw [if_neg (by omega)]; rfl)
  rw [← hR]
  clear h hn hR hf
  go_enter Tryz.func19, Tryz.ntmps19
  go_wp2_with fail
  go_loopw [3, 4] (fun u _ wr => ∃ k : Nat, u = .int .i64 k ∧ k ≤ n ∧ Hid (R = Ig.fgo (Ig.prevD l k) (l.drop k)) ∧ Hid (Ext w wr)) (fun u _ _ => n - (intOf u).toNat)
  case atStart => exact ⟨0, rfl, Nat.zero_le _, HR, Lib.hid hx⟩
  case round =>
    clear hx HR
    rename World => wo
    obtain ⟨k, rfl, hk, HR, HX⟩ := hrel
    by_cases hlt : k < n
    · have hkl : k < l.length := by rw [HN.out]; exact hlt
      have e0 : l[k]? = some l[k] := List.getElem?_eq_getElem _
      have hfr' := HF.out.rules _ (List.getElem_mem hkl)
      obtain ⟨b, oo, cs, rfl, hbl, -, -, hr, A', n', m', rfl, hn', hnm', hru⟩ := HL.out.get e0
      have c0w := hr 0 _ rfl
      have c1w := hr 1 _ rfl
      rw [Nat.add_zero] at c0w
      have hst : ∃ v : Bool, v = Ig.disorder (Ig.prevD l k) l[k].dir ∧ (k = 0 ∨ (0 < k ∧ ∃ g : Ig.Fi, w.cell? ⟨b, oo + (k - 1) * 2, none⟩ = some (.string g.dir) ∧ Op.bytesLess g.dir.toList l[k].dir.toList = !v)) := by
        refine ⟨_, rfl, ?_⟩
        rcases k with _ | j
        · exact .inl rfl
        · have hj : j < l.length := by omega
          have hg : l[j]? = some (l[j]'hj) := List.getElem?_eq_getElem hj
          obtain ⟨b', o', cs', e', _, _, _, hr', A2, n2, m2, rfl, _⟩ := HL.out.get hg
          cases e'
          exact .inr ⟨Nat.succ_pos _, _, hr' 0 _ rfl, Ig.disorder_prev2 hg _⟩
      have E0 := Lib.hid e0
      have HRU := Lib.hid hru
      clear hr e0 hru
      generalize l[k] = f at c0w c1w hst E0 HRU hn' hfr'
      clear hkl
      obtain ⟨dir, rules⟩ := f
      dsimp only at c0w c1w hst HRU hn' hfr'
      obtain ⟨v, hv, hst⟩ := hst
      have HGO := Lib.hid (HR.out.trans (Ig.fgo_at E0.out))
      dsimp only at HGO
      rw [← hv] at HGO
      obtain ⟨ip, hip⟩ : ∃ z, z = Qm.isPath dir := ⟨_, rfl⟩
      obtain ⟨pe, hpe⟩ : ∃ z, z = (Ig.print rules).2 := ⟨_, rfl⟩
      rw [← hip, ← hpe] at HGO
      have HIP : Hid (∀ W, Calls Tryz.prog 22 #[.string dir] W (Same (.bool ip) W)) := Lib.hid fun W => by rw [hip]; exact rpath_same dir W
      have HPR : Hid (∀ W, Ext w W → Calls Tryz.prog 47 #[.slice A' n' m'] W (Ret (.int .i64 pe) W)) := Lib.hid fun W hW => by rw [hpe]; exact rrules_any A' n' m' rules W (Sls.ext RuR.steadfast HRU.out hW) hn' (by omega)
      have HVZ : Hid (k = 0 → v = false) := Lib.hid fun e => by rw [hv, e]; rfl
      have c0 := (HX.out.cell (p := ⟨b, oo + k * 2, none⟩) hbl).trans c0w
      have c1 := (HX.out.cell (p := ⟨b, oo + k * 2 + 1, none⟩) hbl).trans c1w
      clear hip hpe HR hn' hv
      have h6 : (dir.toList == []) = false ∨ (dir.toList == []) = true := by cases (dir.toList == []) <;> simp
      rcases h6 with h6 | h6
      · rw [h6] at HGO
        go_wp2_with fail
        refine (HIP.out _).mono ?_
        rintro e w1 ⟨rfl, hww⟩
        obtain rfl := hww.symm
        clear HIP
        cases ip with
        | false =>
          have HV : Hid (R = 5) := Lib.hid (by rw [HGO.out]; rfl)
          clear HGO HVZ hst
          go_wp2_with fail
          go_ret
          exact ⟨by rw [HV.out]; rfl, HX.out⟩
        | true =>
          go_wp2_with fail
          rcases hst with rfl | ⟨hk0, g, cg, hle⟩
          focus
            have hv0 : v = false := HVZ.out rfl
            have c1 : wo.cell? ⟨b, oo + 1, none⟩ = some (.slice A' n' m') := by simpa using c1
            subst hv0
            go_wp2_with (go_quiet (fail))
            refine (HPR.out _ (Ext.drewN HX.out _)).mono ?_
            rintro e w2 ⟨rfl, hx2⟩
            have HX3 := Lib.hid ((Ext.drewN HX.out _).trans hx2)
            clear HX hx2 HPR
            cases hz : (pe != 0) with
            | true =>
              have HV : Hid (R = pe) := Lib.hid (by rw [HGO.out]; simp only [Bool.false_and, Bool.not_true, Bool.and_false, Bool.not_false, Bool.true_and, Bool.false_eq_true, if_false]; rw [if_pos (by simpa using hz)])
              clear HGO HVZ
              go_wp2_with fail
              go_ret
              exact ⟨by rw [HV.out]; rfl, HX3.out⟩
            | false =>
              obtain rfl : pe = 0 := by simpa using hz
              clear HVZ hz
              go_wp2_with fail
              go_roundw
              case rel => exact ⟨_, rfl, hlt, Lib.hid (HGO.out.trans (by rfl)), HX3⟩
              case measure => simp [intOf]; omega
          have y1 : IntKind.i64.wrap ((k : Int) - 1) = (k : Int) - 1 := IntWalk.i64_in _ (by omega)
          have y2 : (0 : Int) ≤ (k : Int) - 1 := by omega
          have y3 : ((k : Int) - 1).toNat = k - 1 := by omega
          have y4 : ((k : Int) - 1) < n := by omega
          have y5 : (0 : Int) < k := by omega
          have cp := (HX.out.cell (p := ⟨b, oo + (k - 1) * 2, none⟩) hbl).trans cg
          cases v with
          | true =>
            have HV : Hid (R = 9) := Lib.hid (by rw [HGO.out]; rfl)
            clear HGO HVZ
            go_wp2_with (go_quiet (fail))
            go_ret
            exact ⟨by rw [HV.out]; rfl, Ext.drewN HX.out _⟩
          | false =>
            go_wp2_with (go_quiet (fail))
            refine (HPR.out _ (Ext.drewN HX.out _)).mono ?_
            rintro e w2 ⟨rfl, hx2⟩
            have HX3 := Lib.hid ((Ext.drewN HX.out _).trans hx2)
            clear HX hx2 HPR
            cases hz : (pe != 0) with
            | true =>
              have HV : Hid (R = pe) := Lib.hid (by rw [HGO.out]; simp only [Bool.false_and, Bool.not_true, Bool.and_false, Bool.not_false, Bool.true_and, Bool.false_eq_true, if_false]; rw [if_pos (by simpa using hz)])
              clear HGO HVZ
              go_wp2_with fail
              go_ret
              exact ⟨by rw [HV.out]; rfl, HX3.out⟩
            | false =>
              obtain rfl : pe = 0 := by simpa using hz
              clear HVZ hz
              go_wp2_with fail
              go_roundw
              case rel => exact ⟨_, rfl, hlt, Lib.hid (HGO.out.trans (by rfl)), HX3⟩
              case measure => simp [intOf]; omega
      · rw [h6] at HGO
        go_wp2_with fail
        rcases hst with rfl | ⟨hk0, g, cg, hle⟩
        focus
          have hv0 : v = false := HVZ.out rfl
          have c1 : wo.cell? ⟨b, oo + 1, none⟩ = some (.slice A' n' m') := by simpa using c1
          subst hv0
          go_wp2_with (go_quiet (fail))
          refine (HPR.out _ (Ext.drewN HX.out _)).mono ?_
          rintro e w2 ⟨rfl, hx2⟩
          have HX3 := Lib.hid ((Ext.drewN HX.out _).trans hx2)
          clear HX hx2 HPR
          cases hz : (pe != 0) with
          | true =>
            have HV : Hid (R = pe) := Lib.hid (by rw [HGO.out]; simp only [Bool.false_and, Bool.not_true, Bool.and_false, Bool.not_false, Bool.true_and, Bool.false_eq_true, if_false]; rw [if_pos (by simpa using hz)])
            clear HGO HVZ
            go_wp2_with fail
            go_ret
            exact ⟨by rw [HV.out]; rfl, HX3.out⟩
          | false =>
            obtain rfl : pe = 0 := by simpa using hz
            clear HVZ hz
            go_wp2_with fail
            go_roundw
            case rel => exact ⟨_, rfl, hlt, Lib.hid (HGO.out.trans (by rfl)), HX3⟩
            case measure => simp [intOf]; omega
        have y1 : IntKind.i64.wrap ((k : Int) - 1) = (k : Int) - 1 := IntWalk.i64_in _ (by omega)
        have y2 : (0 : Int) ≤ (k : Int) - 1 := by omega
        have y3 : ((k : Int) - 1).toNat = k - 1 := by omega
        have y4 : ((k : Int) - 1) < n := by omega
        have y5 : (0 : Int) < k := by omega
        have cp := (HX.out.cell (p := ⟨b, oo + (k - 1) * 2, none⟩) hbl).trans cg
        cases v with
        | true =>
          have HV : Hid (R = 9) := Lib.hid (by rw [HGO.out]; rfl)
          clear HGO HVZ
          go_wp2_with (go_quiet (fail))
          go_ret
          exact ⟨by rw [HV.out]; rfl, Ext.drewN HX.out _⟩
        | false =>
          go_wp2_with (go_quiet (fail))
          refine (HPR.out _ (Ext.drewN HX.out _)).mono ?_
          rintro e w2 ⟨rfl, hx2⟩
          have HX3 := Lib.hid ((Ext.drewN HX.out _).trans hx2)
          clear HX hx2 HPR
          cases hz : (pe != 0) with
          | true =>
            have HV : Hid (R = pe) := Lib.hid (by rw [HGO.out]; simp only [Bool.false_and, Bool.not_true, Bool.and_false, Bool.not_false, Bool.true_and, Bool.false_eq_true, if_false]; rw [if_pos (by simpa using hz)])
            clear HGO HVZ
            go_wp2_with fail
            go_ret
            exact ⟨by rw [HV.out]; rfl, HX3.out⟩
          | false =>
            obtain rfl : pe = 0 := by simpa using hz
            clear HVZ hz
            go_wp2_with fail
            go_roundw
            case rel => exact ⟨_, rfl, hlt, Lib.hid (HGO.out.trans (by rfl)), HX3⟩
            case measure => simp [intOf]; omega
    · obtain rfl : k = n := by omega
      have HV : Hid (R = 0) := Lib.hid (by rw [HR.out, ← HN.out, List.drop_length]; cases Ig.prevD l l.length <;> rfl)
      go_wp2_with fail
      go_ret
      exact ⟨by rw [HV.out]; rfl, HX.out⟩
set_option maxHeartbeats 8000000 in
set_option maxRecDepth 100000 in
/-- quiltref39.Print. -/
theorem rprint39_any (A : Option Addr) (n c : Nat) (l : List Ig.Ru) (w : World) {F : Nat → Prop} (h : Rus w F A l) (hn : l.length = n) (hb : n ≤ 1000000000) :
    Calls Tryz.prog 17 #[.slice A n c] w (Ret (.tuple #[.string (Ig.bs (Ig.print l).1), .int .i64 (Ig.print l).2]) w) := by
  have HL := Lib.hid h
  have HN := Lib.hid hn
  have HRU := Lib.hid (rrules_any A n c l w h hn hb)
  obtain ⟨R, hR⟩ : ∃ R, R = Ig.print l := ⟨_, rfl⟩
  have HR := Lib.hid hR
  have HZ0 : Hid (R.2 ≠ 0 → R = ([], R.2)) := Lib.hid (by
    rw [hR]
    unfold Ig.print
    split
    · intro _; rfl
    · split
      · intro _; rfl
      · intro h; exact absurd rfl h)
  rw [← hR] at HRU ⊢
  clear h hn hR
  go_enter Tryz.func17, Tryz.ntmps17
  go_wp2_with fail
  refine HRU.out.mono ?_
  rintro e w1 ⟨rfl, hx1⟩
  have HX1 := Lib.hid hx1
  clear hx1 HRU
  cases hz : (R.2 != 0) with
  | true =>
    have HV : Hid (R = ([], R.2)) := Lib.hid (HZ0.out (by simpa using hz))
    clear HR HZ0
    obtain ⟨R1, R2⟩ := R
    dsimp only at hz HV
    have HV2 : Hid (R1 = []) := Lib.hid (congrArg Prod.fst HV.out)
    go_wp2_with fail
    go_ret2
    exact ⟨by rw [HV2.out]; rfl, HX1.out⟩
  | false =>
    have hz0 : R.2 = 0 := by simpa using hz
    have hnk : l.length ≤ 100 := by
      have h := hz0
      rw [HR.out] at h
      unfold Ig.print at h
      split at h
      · cases h
      · omega
    have HAL : Hid (∀ r ∈ l, Ig.ruleErr r = 0) := Lib.hid (Ig.rulesErr_zero.1 (by
      have h := hz0
      rw [HR.out] at h
      unfold Ig.print at h
      rw [if_neg (by omega)] at h
      split at h
      · rename_i h2; exact absurd h h2
      · rename_i h2; simpa using h2))
    have HV : Hid (R = (Ig.textTo l l.length, 0)) := Lib.hid (by rw [HR.out]; exact Ig.print_good hnk HAL.out)
    have HNK := Lib.hid hnk
    clear HZ0 HR hnk
    go_wp2_with fail
    clear hz hz0
    go_loopw [5, 6] (fun u5 u6 wr => ∃ (k : Nat) (o : ByteArray), u6 = .int .i64 k ∧ u5 = .string o ∧ k ≤ n ∧ o.size ≤ k * 210 ∧ Hid (o.data.toList = Ig.textTo l k) ∧ Hid (Ext w wr)) (fun _ u _ => n - (intOf u).toNat)
    case atStart => exact ⟨0, ⟨#[]⟩, rfl, rfl, Nat.zero_le _, Nat.zero_le _, Lib.hid rfl, HX1⟩
    case round =>
      clear HX1
      rename World => wo
      obtain ⟨k, o, rfl, rfl, hk, hos, HO, HX⟩ := hrel
      by_cases hlt : k < n
      · have hkl : k < l.length := by rw [HN.out]; exact hlt
        have e0 : l[k]? = some l[k] := List.getElem?_eq_getElem _
        have hre := HAL.out _ (List.getElem_mem hkl)
        obtain ⟨b, oo, cs, rfl, hbl, -, -, hr, hcs⟩ := HL.out.get e0
        obtain rfl : cs = _ := hcs
        have c0 := (HX.out.cell (p := ⟨b, oo + k * 4, none⟩) hbl).trans (hr 0 _ rfl)
        have c1 := (HX.out.cell (p := ⟨b, oo + k * 4 + 1, none⟩) hbl).trans (hr 1 _ rfl)
        have c2 := (HX.out.cell (p := ⟨b, oo + k * 4 + 2, none⟩) hbl).trans (hr 2 _ rfl)
        have c3 := (HX.out.cell (p := ⟨b, oo + k * 4 + 3, none⟩) hbl).trans (hr 3 _ rfl)
        have E0 := Lib.hid e0
        have HCS := Lib.hid hr
        clear hr e0
        generalize l[k] = r at c0 c1 c2 c3 E0 hre HCS
        clear hkl
        obtain ⟨neg, dirOnly, anch, gb⟩ := r
        dsimp only at c0 c1 c2 c3 HCS
        have hgs : gb.size ≤ 200 := (Ig.gcheck_zero (g := Ig.L gb) (by
          unfold Ig.ruleErr at hre
          dsimp only at hre
          split at hre
          · rename_i h1; exact absurd hre h1
          · rename_i h1; simpa using h1)).1
        obtain ⟨dp, hdp⟩ : ∃ z, z = (Ig.L gb).contains 47 := ⟨_, rfl⟩
        have HDC : Hid (∀ W, Calls Tryz.prog 48 #[.string gb, .int .u8 47] W (Ret (.bool dp) W)) := Lib.hid fun W => by rw [hdp]; exact rhas_any gb 47 W (by omega)
        have HBO : Hid (Ig.textTo l (k + 1) = o.data.toList ++ ((Ig.opt 33 neg ++ (Ig.opt 47 (anch && !dp) ++ (gb.data.toList ++ Ig.opt 47 dirOnly))) ++ [10])) := Lib.hid (by rw [Ig.textTo_next E0.out, HO.out, hdp]; rfl)
        have hok : o.size ≤ 21000 := by have := HNK.out; have := HN.out; omega
        clear hdp hre HO E0
        cases anch with
        | false =>
          cases neg <;> cases dirOnly
          all_goals
            go_wp2_with fail
            all_goals first | (exfalso; omega) | skip
            go_roundw
            case rel => exact ⟨k + 1, _, rfl, rfl, hlt, by simp only [ByteArray.size_append, szB]; omega, Lib.hid (by rw [HBO.out]; simp only [Lapp, Ig.opt, List.append_assoc, List.nil_append, List.append_nil, Bool.not_true, Bool.not_false, Bool.and_true, Bool.and_false, Bool.true_and, Bool.false_and, List.cons_append]), HX⟩
            case measure => simp [intOf]; omega
        | true =>
          cases neg <;> cases dirOnly <;> cases dp
          all_goals
            go_wp2_with fail
            all_goals first | (exfalso; omega) | skip
            refine (HDC.out _).mono ?_
            rintro e w2 ⟨rfl, hx2⟩
            have HX2 := Lib.hid (HX.out.trans hx2)
            have d0 := (HX2.out.cell (p := ⟨b, oo + k * 4, none⟩) hbl).trans (HCS.out 0 _ rfl)
            have d1 := (HX2.out.cell (p := ⟨b, oo + k * 4 + 1, none⟩) hbl).trans (HCS.out 1 _ rfl)
            have d2 := (HX2.out.cell (p := ⟨b, oo + k * 4 + 2, none⟩) hbl).trans (HCS.out 2 _ rfl)
            have d3 := (HX2.out.cell (p := ⟨b, oo + k * 4 + 3, none⟩) hbl).trans (HCS.out 3 _ rfl)
            clear hx2 c0 c1 c2 c3
            go_wp2_with fail
            all_goals first | (exfalso; omega) | skip
            go_roundw
            case rel => exact ⟨k + 1, _, rfl, rfl, hlt, by simp only [ByteArray.size_append, szB]; omega, Lib.hid (by rw [HBO.out]; simp only [Lapp, Ig.opt, List.append_assoc, List.nil_append, List.append_nil, Bool.not_true, Bool.not_false, Bool.and_true, Bool.and_false, Bool.true_and, Bool.false_and, List.cons_append]), HX2⟩
            case measure => simp [intOf]; omega
      · obtain rfl : k = n := by omega
        have HV2 : Hid (R = (Ig.L o, 0)) := Lib.hid (by rw [HV.out, HN.out, ← HO.out])
        go_wp2_with fail
        go_ret2
        exact ⟨by rw [HV2.out]; rfl, HX.out⟩
end Go.Proofs.YtnjcifppkijanaaGreatDoor
