/- Walks: what adds a vote; review.Vote. -/
import Derived.Test.YtojfgidoobgcaaaGreatDoorNy
import Derived.Test.YtojfgidoobgcaaaGreatDoorNl
import Derived.Test.YtojfgidoobgcaaaGreatDoorHeld
import Derived.Test.YtojfgidoobgcaaaGreatDoorMf
set_option linter.unusedSimpArgs false
set_option linter.unusedVariables false
namespace Go.Proofs.YtojfgidoobgcaaaGreatDoor
open Go Go.RowKit

theorem vinfo : ∃ (i : TypeInfo) (z : Value), Tryz.prog.info? 39 = some i ∧ i.zero = some z ∧ i.size = 4 ∧ i.bytes = 64 ∧ z.cells.size = 4 := by
  have h := vclone_info
  cases hq : Tryz.prog.info? 39 with
  | none => rw [hq] at h; cases h
  | some i =>
    rw [hq] at h
    simp only [Option.map_some, Option.some.injEq, Prod.mk.injEq] at h
    obtain ⟨h1, h2, h3⟩ := h
    cases hz : i.zero with
    | none => rw [hz] at h3; cases h3
    | some z => rw [hz] at h3; exact ⟨i, z, rfl, hz, h1, h2, by simpa using h3⟩
theorem wp_append_w {P : Program} {K : Act → World → Prop} {Q : Exit → Act → World → Prop} {α : Type} {k by_ : Nat} {R : Reads α} (ho1 : ∀ {w F c x}, R w F c x → ∀ u ∈ c, Value.oneCell' u = true) (w0 w : World) {o : Oper} {a : Act} (s x : Operand) (t e : TypeId) (i : TypeInfo) (z : Value)
    (ho : o.op = .call { callee := .builtin .append, args := #[s, x], argTypes := #[t, t] }) (ht : P.underlying t = some (.slice e)) (hi : P.info? e = some i) (hz : i.zero = some z) (hsz : i.size = k) (hby : i.bytes = by_) (hzk : z.cells.size = k) (hk : 0 < k)
    (base : Nat) {F : Nat → Prop} (v : Value) (l : List α) (hs : a.eval s = v) (h : OwnW k R e w0 w base F v l) (b c : Nat) (cells : List Value) (y : α) (hx : a.eval x = .slice (some ⟨b, 0, none⟩) 1 c) (hr : w.rangeAt b 0 cells) (hlen : cells.length = k) (hy : R w0 F cells y)
    (hn : l.length + 1 ≤ maxLen) (hbig : (l.length + 1) * by_ ≤ 140737488355328) (hbase : base ≤ w.heap.size)
    (hK : ∀ g cap w', OwnW k R e w0 w' base F (.slice (some ⟨g, 0, none⟩) (l.length + 1) cap) (l ++ [y]) → w.grownBy w' v.ownBlock → K (a.put o.dst (.slice (some ⟨g, 0, none⟩) (l.length + 1) cap)) w') : o.wp P a w K Q := by
  obtain ⟨cs, h1, h2, h3, h4⟩ := h
  refine wp_append_lies w s x t ho base e i z k by_ ht hi hz hsz hby hzk hk v l.length cs.flatten hs h3 ⟨b, 0, none⟩ 1 c cells hx (by rw [hlen, Nat.one_mul]) (fun j u hu => ?_) (fun u hu => ho1 hy u hu) (by omega) hn hbig hbase w.heap.size rfl (fun g cap w' hown hgrow _ _ => ?_)
  · rw [Addr.add_mid]
    exact hr j u hu
  · refine hK g cap w' ⟨cs ++ [cells], by simp [h1], fun d hd => ?_, ?_, fun j d q hd hq => ?_⟩ hgrow
    · rcases List.mem_append.1 hd with hd | hd
      · exact h2 d hd
      · obtain rfl : d = cells := by simpa using hd
        exact hlen
    · rw [List.length_append, List.flatten_append]
      simpa using hown
    · rcases Nat.lt_or_ge j cs.length with hj | hj
      · rw [List.getElem?_append_left hj] at hd
        rw [List.getElem?_append_left (by omega)] at hq
        exact h4 j d q hd hq
      · rw [List.getElem?_append_right hj] at hd
        rw [List.getElem?_append_right (by omega), ← h1] at hq
        have hj0 : j - cs.length = 0 := by
          have := (List.getElem?_eq_some_iff.1 hd).1
          simpa using this
        rw [hj0] at hd hq
        obtain rfl : cells = d := by simpa using hd
        obtain rfl : y = q := by simpa using hq
        exact hy
section
variable {α : Type} {k : Nat} {R : Reads α} {t : TypeId} {w0 w w' : World} {base : Nat} {F : Nat → Prop} {v : Value} {l : List α}
theorem OwnW.lt (h : OwnW k R t w0 w base F v l) (b : Nat) (e : v.ownBlock = some b) : base ≤ b ∧ b < w.heap.size := by
  obtain ⟨cs, h1, h2, h3, h4⟩ := h
  exact h3.lt b e
theorem OwnW.far (h : OwnW k R t w0 w base F v l) {p : Addr} (hp : ∀ b, v.ownBlock = some b → b ≠ p.block) (u : Value) : OwnW k R t w0 (w.setCell p u) base F v l := by
  obtain ⟨cs, h1, h2, ⟨h3, h5⟩, h4⟩ := h
  refine ⟨cs, h1, h2, ⟨h3, ?_⟩, h4⟩
  rcases h5 with h5 | ⟨g, cap, cur, rfl, hb, hg, r⟩
  · exact .inl h5
  · exact .inr ⟨g, cap, cur, rfl, hb, Blk.far (p := p) hg (hp g rfl) u, r⟩
theorem Blk.grown {g : Nat} {cs : Array Value} {row : Option Nat} (hb : Blk w g t cs) (hg : w.grownBy w' row) (hne : row ≠ some g) : Blk w' g t cs := (hg.block g hb.lt (fun e => hne e.symm)).trans hb
end
/-- What adding a vote does. -/
def Vw.votOf (v : Vt) (need : Int) (r : Rv) : Rv × Int := if Vw.vote v ≠ 0 then (r, Vw.vote v) else if v.ids ≠ r.ids then (r, 10) else if r.votes.length = 100 then (r, 4) else (Vw.voted v need r, 0)
set_option maxHeartbeats 16000000 in
set_option maxRecDepth 100000 in
/-- review.Vote's closure. -/
theorem vot1_any (v : Vt) (need : Int) (X : Option Addr) (p q g gv gn : Nat) (w0 w : World) (hglob : Glob w0) (hw : Ext w0 w) (hg : w0.heap.size ≤ g) (c : List Value) (r : Rv)
    (hbv : Blk w0 gv 39 #[.string v.who, .int .i64 v.kind, .string v.text, .slice X p q]) (hbn : Blk w0 gn 3 #[.int .i64 need]) (hd : Ds w0 All X v.ids) (hp : v.ids.length = p) (hpq : p ≤ q) (hvf : v.Fits) (hrf : r.Fits) (hrv : r.votes.length ≤ 1000)
    (hb : Blk w g 28 c.toArray) (hr : Rev w0 All c r) :
    Calls Tryz.prog 69 #[.pointer (some ⟨g, 0, none⟩), .pointer (some ⟨gv, 0, none⟩), .pointer (some ⟨gn, 0, none⟩)] w (Changes g w0 (Vw.votOf v need r)) := by
  obtain ⟨A', n', m', B', p', q', rfl, ⟨hn', hm', hids⟩, hp', hq', hvs⟩ := hr
  have HVT : Hid (Vot w0 All [.string v.who, .int .i64 v.kind, .string v.text, .slice X p q] v) := Lib.hid ⟨X, p, q, rfl, hp, hpq, hd⟩
  have HCV : Hid (∀ W, Ext w0 W → Calls Tryz.prog 70 #[.agg #[.string v.who, .int .i64 v.kind, .string v.text, .slice X p q]] W (Ret (.int .i64 (Vw.vote v)) W)) := Lib.hid fun W hW => cvote_any [.string v.who, .int .i64 v.kind, .string v.text, .slice X p q] v W (hglob.ext hW) (Vot.steadfast.ext HVT.out hW) hvf
  have hpb : p ≤ 1000000000 := by rw [← hp]; exact hvf.ids
  have hnb : n' ≤ 1000000000 := by rw [← hn']; exact hrf.ids
  have hp1 : p' ≤ 1000 := by rw [← hp']; exact hrv
  obtain ⟨s, hs⟩ : ∃ s, s = decide (v.ids = r.ids) := ⟨_, rfl⟩
  have HEQ : Hid (∀ W, Ext w0 W → Calls Tryz.prog 65 #[.slice X p q, .slice A' n' m'] W (Ret (.bool s) W)) := Lib.hid fun W hW => by rw [hs]; exact dequal_any X A' p q n' m' v.ids r.ids W (Ds.ext hd hW) (Ds.ext hids hW) hp hn' hpb hnb
  have HCL : Hid (∀ W, Ext w0 W → Calls Tryz.prog 20 #[.slice B' p' q'] W (fun e w' => ∃ v', e = .returned v' ∧ OwnW 4 Vot 39 w0 w' W.heap.size All v' r.votes ∧ Ext W w')) := Lib.hid fun W hW => vclone_any B' p' q' r.votes w0 W hvs hW hp' (by omega)
  have HP' := Lib.hid hp'
  have hlv := hbv.lt
  have hln := hbn.lt
  have HU : Hid (Vw.votOf v need r = if Vw.vote v ≠ 0 then (r, Vw.vote v) else if v.ids ≠ r.ids then (r, 10) else if r.votes.length = 100 then (r, 4) else (Vw.voted v need r, 0)) := Lib.hid rfl
  have HSE := Lib.hid hs
  have HID := Lib.hid hids
  have HN' := Lib.hid hn'
  have HM' := Lib.hid hm'
  have HVF := Lib.hid hvf
  have HRF := Lib.hid hrf
  have HB := Lib.hid hb
  have HBV := Lib.hid hbv
  have HBN := Lib.hid hbn
  have HW := Lib.hid hw
  obtain ⟨hcv, hfv, hlv'⟩ := (Blk.ext hw hbv).all
  generalize Vw.votOf v need r = R at HU ⊢
  generalize hE : Vw.vote v = E at HU HCV
  clear hb hw hd hbv hbn hids hvs hp' hq' hn' hm' hp hpq hglob hs hvf hrf hE
  go_enter Tryz.func69, Tryz.ntmps69
  have hx := Ext.refl w
  clear hx
  go_wp2_with fail
  refine (HCV.out w HW.out).mono ?_
  rintro e w1 ⟨rfl, hx1⟩
  have HW1 := Lib.hid (HW.out.trans hx1)
  have HB := Lib.hid (HB.out.ext hx1)
  clear HCV hcv hfv hlv' HW hx1
  by_cases h0 : E = 0
  rotate_left
  · have hk0 : (E == 0) = false := by simpa using h0
    have hv : R = (r, E) := by rw [HU.out, if_pos h0]
    clear HU
    subst hv
    go_wp2_with fail
    go_ret
    exact ⟨rfl, HW1.out, fun h => absurd h h0⟩
  subst h0
  go_upto_region 4 with fail
  have HC0 : Hid (∀ W, Ext w1 W → ∀ i, W.cell? ⟨g, i, none⟩ = (#[.int .i64 r.number, .string r.author, .string r.branch, .slice A' n' m', .int .i64 r.state, .slice B' p' q'] : Array Value)[i]?) := Lib.hid fun W hW => (HB.out.ext hW).cell
  have HC1 : Hid (∀ W, Ext w1 W → ∀ i, W.cell? ⟨gv, i, none⟩ = (#[.string v.who, .int .i64 v.kind, .string v.text, .slice X p q] : Array Value)[i]?) := Lib.hid fun W hW => (HBV.out.ext (HW1.out.trans hW)).cell
  refine wp_region_ext (by kernel_rfl) (by kernel_rfl) ?_
  repeat (first | go_big_quiet_skip | (go_big_quiet_want; first | (go_big_quiet_op; go_big_quiet_on) | (apply quiet_at; intro W hW; have hc0 := HC0.out W hW; have hc1 := HC1.out W hW; go_simp; (first | exact rfl | (simp only [Oper.quietUpon, true_and]; first | exact rfl | (go_at_call 65; exact quiet_call hW (HEQ.out W (HW1.out.trans hW)) (fun _ _ h => h))) | (go_at_call 65; exact quiet_call hW (HEQ.out W (HW1.out.trans hW)) (fun _ _ h => h))); go_big_quiet_on; simp only [Act.put, sA, s0, sS])))
  refine wpQuiet_nil ?_
  intro w2 hx2
  have HW2 := Lib.hid (HW1.out.trans hx2)
  have HB := Lib.hid (HB.out.ext hx2)
  clear hx2 HC0 HC1 HEQ
  cases s
  · have hv : R = (r, 10) := by rw [HU.out, if_neg (by simp), if_pos (by have := HSE.out; simpa using this.symm)]
    clear HU
    subst hv
    go_wp2_with fail
    go_ret
    exact ⟨rfl, HW2.out, fun h => by cases h⟩
  have hve : v.ids = r.ids := by have := HSE.out; simpa using this.symm
  obtain ⟨hc0, hf0, hl0⟩ := HB.out.all
  by_cases h100 : p' = 100
  · have hv : R = (r, 4) := by rw [HU.out, if_neg (by simp), if_neg (by simp [hve]), if_pos (by rw [HP'.out]; exact h100)]
    clear HU
    subst hv
    subst h100
    go_wp2_with fail
    go_ret
    exact ⟨rfl, HW2.out, fun h => by cases h⟩
  have hk1 : ((p' : Int) == 100) = false := by simp; omega
  have hv : R = (Vw.voted v need r, 0) := by rw [HU.out, if_neg (by simp), if_neg (by simp [hve]), if_neg (by rw [HP'.out]; exact h100)]
  clear HU h100 hve HSE
  subst hv
  obtain ⟨i0, z0, hi0, hz0, hs0, hby0, hzk0⟩ := vinfo
  have HI0 := Lib.hid hi0
  have HZ0 := Lib.hid hz0
  clear hi0 hz0
  go_upto_region 8 with fail
  clear hc0 hf0 hl0 hk1
  go_cut [] (fun wx => ∃ gg cap base : Nat, Hid (Blk wx g 28 #[.int .i64 r.number, .string r.author, .string r.branch, .slice A' n' m', .int .i64 r.state, .slice (some ⟨gg, 0, none⟩) (p' + 1) cap]) ∧ Hid (OwnW 4 Vot 39 w0 wx base All (.slice (some ⟨gg, 0, none⟩) (p' + 1) cap) (r.votes ++ [v])) ∧ Hid (Ext w0 wx) ∧ g < base)
  case first =>
    refine wp_region_noPanic (wp_region_held_drew (S := fun w' => Ext w0 w') (by kernel_rfl) HW2.out.drew1 (fun hv => ?_))
    have HB := Lib.hid HB.out.drew
    generalize w2.drew = v0 at hv HB ⊢
    refine tf (i := 0) (v := .pointer (some ⟨g, 0, none⟩)) rfl rfl (fun _ => rfl) hv ?_
    try simp only [Act.put, sA, s0, sS]
    refine tf (i := 1) (v := .pointer (some ⟨g, 0, none⟩)) rfl rfl (fun _ => rfl) hv ?_
    try simp only [Act.put, sA, s0, sS]
    refine tf (i := 2) (v := .pointer (some ⟨g, 0, none⟩)) rfl rfl (fun _ => rfl) hv ?_
    try simp only [Act.put, sA, s0, sS]
    refine take_any (i := 3) (v := .pointer (some ⟨g, 5, none⟩)) rfl rfl (by kernel_rfl) (by kernel_rfl) (by kernel_rfl) (.inl ⟨(by kernel_rfl), fun W' hW' => ?fb⟩) hv ?_
    case fb => go_simp
    try simp only [Act.put, sA, s0, sS]
    refine tl (i := 6) [.string v.who, .int .i64 v.kind, .string v.text, .slice X p q] rfl rfl rfl rfl rfl Tryz.underlying39 rfl (fun _ h => (HBV.out.ext h).range 0 _ (fun j _ => by simp)) hv ?_
    try simp only [Act.put, sA, s0, sS]
    have hi0 := HI0.out
    have hz0 := HZ0.out
    refine wpAnyH_ready (rs := [4, 7]) (by kernel_rfl) (by simp) ?_
    refine (AllReadyH.cons rfl (fun K hK => ?_) (AllReadyH.cons rfl (fun K hK => ?_) AllReadyH.nil))
    · have hc0 := HB.out.cell
      go_simp
      refine hK.out _ _ (hv) (fun _ => ?_)
      clear hK
      try simp only [Act.put, sA, s0, sS]
      clear hc0
      refine wpAnyH_ready (rs := [5, 7]) (by kernel_rfl) (by simp) ?_
      refine (AllReadyH.cons rfl (fun K hK => ?_) (AllReadyH.cons rfl (fun K hK => ?_) AllReadyH.nil))
      · go_simp
        refine (HCL.out v0 hv).mono ?_
        rintro e vc ⟨v', rfl, hown, hx0⟩
        have hgb : g < v0.heap.size := HB.out.lt
        have hwb : w0.heap.size ≤ v0.heap.size := hv.size_le
        have hbs : v0.heap.size ≤ vc.heap.size := hx0.size_le
        generalize v0.heap.size = base at hown hgb hwb hbs
        have hv2 := hv.trans hx0
        refine hK.out _ _ (hv2) (fun _ => ?_)
        clear hK
        try simp only [Act.put, sA, s0, sS]
        have HO := Lib.hid hown
        have HB := Lib.hid (HB.out.ext hx0)
        have hv := hv2
        clear hv2 hx0 hown
        refine wpAnyH_one (i := 7) (by kernel_rfl) rfl (by kernel_rfl) ?_
        go_simp
        refine ⟨hv.alloc _, ?_⟩
        try simp only [Act.put, sA, s0, sS]
        have hx0 : Ext vc (vc.alloc (.cells #[.string v.who, .int .i64 v.kind, .string v.text, .slice X p q] 39)) := (Ext.refl vc).alloc _
        have hl : Blk (vc.alloc (.cells #[.string v.who, .int .i64 v.kind, .string v.text, .slice X p q] 39)) vc.heap.size 39 #[.string v.who, .int .i64 v.kind, .string v.text, .slice X p q] := Blk.new' rfl
        generalize vc.alloc (.cells #[.string v.who, .int .i64 v.kind, .string v.text, .slice X p q] 39) = vl at hx0 hl ⊢
        generalize vc.heap.size = gl at hl ⊢
        have HL := Lib.hid hl
        have hv2 := hv.trans hx0
        have HB := Lib.hid (HB.out.ext hx0)
        have HO := Lib.hid (HO.out.ext hx0)
        have hbs := Nat.le_trans hbs hx0.size_le
        have hv := hv2
        clear hv2 hx0 hl
        refine wpAnyH_one (i := 8) (by kernel_rfl) rfl (by kernel_rfl) ?_
        refine wp_append_w (R := Vot) (fun h => Vot.one h) w0 vl _ _ 26 39 i0 z0 rfl Tryz.underlying26 hi0 hz0 hs0 hby0 hzk0 (by decide) base v' r.votes rfl HO.out gl 1 [.string v.who, .int .i64 v.kind, .string v.text, .slice X p q] v rfl (HL.out.range 0 _ (fun j _ => by simp)) rfl HVT.out (by unfold maxLen; omega) (by omega) hbs ?_
        intro gg cap v4 hown4 hgrow
        have hlt := HO.out.lt
        have hv4 : Ext w0 v4 := Below.grown hv hgrow hv.size_le (fun k e => by have := (hlt k e).1; omega)
        have HB4 : Hid (Blk v4 g 28 #[.int .i64 r.number, .string r.author, .string r.branch, .slice A' n' m', .int .i64 r.state, .slice B' p' q']) := Lib.hid (HB.out.grown hgrow (fun e => by have := (hlt g e).1; omega))
        have HO4 := Lib.hid hown4
        rw [HP'.out]
        refine ⟨hv4, ?_⟩
        try simp only [Act.put, sA, s0, sS]
        clear hv
        have hv := hv4
        clear hv4 hgrow hlt hown4
        refine tf (i := 9) (v := .pointer (some ⟨g, 0, none⟩)) rfl rfl (fun _ => rfl) hv ?_
        try simp only [Act.put, sA, s0, sS]
        refine take_any (i := 10) (v := .pointer (some ⟨g, 5, none⟩)) rfl rfl (by kernel_rfl) (by kernel_rfl) (by kernel_rfl) (.inl ⟨(by kernel_rfl), fun W' hW' => ?fa⟩) hv ?_
        case fa => go_simp
        try simp only [Act.put, sA, s0, sS]
        have hc4 := HB4.out.cell
        have hf4 := HB4.out.frozen
        refine wpAnyH_one (i := 11) (by kernel_rfl) rfl (by kernel_rfl) ?_
        go_simp
        refine ⟨Ext.setCell (p := ⟨g, 5, none⟩) hv hg _, ?_⟩
        try simp only [Act.put, sA, s0, sS]
        clear hc4 hf4
        refine wpAnyH_done (by kernel_rfl) (NoPanic.normal ?_) _
        go_wp2_with fail
        go_meet
        have hgg := (HO4.out.lt gg rfl).1
        have hb5 := HB4.out.set_ 5 (.slice (some ⟨gg, 0, none⟩) (p' + 1) cap)
        have hp1 : p' + 1 = r.votes.length + 1 := by rw [HP'.out]
        exact ⟨gg, cap, base, Lib.hid hb5, Lib.hid (by rw [hp1]; exact HO4.out.far (p := ⟨g, 5, none⟩) (fun k e => by have := (HO4.out.lt k e).1; show k ≠ g; omega) _), Lib.hid (Ext.setCell (p := ⟨g, 5, none⟩) hv hg _), by omega⟩
      · go_simp
        refine hK.out _ _ (hv.alloc _) (fun _ => ?_)
        clear hK
        try simp only [Act.put, sA, s0, sS]
        have hx0 : Ext v0 (v0.alloc (.cells #[.string v.who, .int .i64 v.kind, .string v.text, .slice X p q] 39)) := (Ext.refl v0).alloc _
        have hl : Blk (v0.alloc (.cells #[.string v.who, .int .i64 v.kind, .string v.text, .slice X p q] 39)) v0.heap.size 39 #[.string v.who, .int .i64 v.kind, .string v.text, .slice X p q] := Blk.new' rfl
        generalize v0.alloc (.cells #[.string v.who, .int .i64 v.kind, .string v.text, .slice X p q] 39) = vl at hx0 hl ⊢
        generalize v0.heap.size = gl at hl ⊢
        have HL := Lib.hid hl
        have hv2 := hv.trans hx0
        have HB := Lib.hid (HB.out.ext hx0)
        have hv := hv2
        clear hv2 hx0 hl
        refine wpAnyH_one (i := 5) (by kernel_rfl) rfl (by kernel_rfl) ?_
        go_simp
        refine (HCL.out vl hv).mono ?_
        rintro e vc ⟨v', rfl, hown, hx0⟩
        have hgb : g < vl.heap.size := HB.out.lt
        have hwb : w0.heap.size ≤ vl.heap.size := hv.size_le
        have hbs : vl.heap.size ≤ vc.heap.size := hx0.size_le
        generalize vl.heap.size = base at hown hgb hwb hbs
        have hv2 := hv.trans hx0
        refine ⟨hv2, ?_⟩
        try simp only [Act.put, sA, s0, sS]
        have HO := Lib.hid hown
        have HB := Lib.hid (HB.out.ext hx0)
        have HL := Lib.hid (HL.out.ext hx0)
        have hv := hv2
        clear hv2 hx0 hown
        refine wpAnyH_one (i := 8) (by kernel_rfl) rfl (by kernel_rfl) ?_
        refine wp_append_w (R := Vot) (fun h => Vot.one h) w0 vc _ _ 26 39 i0 z0 rfl Tryz.underlying26 hi0 hz0 hs0 hby0 hzk0 (by decide) base v' r.votes rfl HO.out gl 1 [.string v.who, .int .i64 v.kind, .string v.text, .slice X p q] v rfl (HL.out.range 0 _ (fun j _ => by simp)) rfl HVT.out (by unfold maxLen; omega) (by omega) hbs ?_
        intro gg cap v4 hown4 hgrow
        have hlt := HO.out.lt
        have hv4 : Ext w0 v4 := Below.grown hv hgrow hv.size_le (fun k e => by have := (hlt k e).1; omega)
        have HB4 : Hid (Blk v4 g 28 #[.int .i64 r.number, .string r.author, .string r.branch, .slice A' n' m', .int .i64 r.state, .slice B' p' q']) := Lib.hid (HB.out.grown hgrow (fun e => by have := (hlt g e).1; omega))
        have HO4 := Lib.hid hown4
        rw [HP'.out]
        refine ⟨hv4, ?_⟩
        try simp only [Act.put, sA, s0, sS]
        clear hv
        have hv := hv4
        clear hv4 hgrow hlt hown4
        refine tf (i := 9) (v := .pointer (some ⟨g, 0, none⟩)) rfl rfl (fun _ => rfl) hv ?_
        try simp only [Act.put, sA, s0, sS]
        refine take_any (i := 10) (v := .pointer (some ⟨g, 5, none⟩)) rfl rfl (by kernel_rfl) (by kernel_rfl) (by kernel_rfl) (.inl ⟨(by kernel_rfl), fun W' hW' => ?fa⟩) hv ?_
        case fa => go_simp
        try simp only [Act.put, sA, s0, sS]
        have hc4 := HB4.out.cell
        have hf4 := HB4.out.frozen
        refine wpAnyH_one (i := 11) (by kernel_rfl) rfl (by kernel_rfl) ?_
        go_simp
        refine ⟨Ext.setCell (p := ⟨g, 5, none⟩) hv hg _, ?_⟩
        try simp only [Act.put, sA, s0, sS]
        clear hc4 hf4
        refine wpAnyH_done (by kernel_rfl) (NoPanic.normal ?_) _
        go_wp2_with fail
        go_meet
        have hgg := (HO4.out.lt gg rfl).1
        have hb5 := HB4.out.set_ 5 (.slice (some ⟨gg, 0, none⟩) (p' + 1) cap)
        have hp1 : p' + 1 = r.votes.length + 1 := by rw [HP'.out]
        exact ⟨gg, cap, base, Lib.hid hb5, Lib.hid (by rw [hp1]; exact HO4.out.far (p := ⟨g, 5, none⟩) (fun k e => by have := (HO4.out.lt k e).1; show k ≠ g; omega) _), Lib.hid (Ext.setCell (p := ⟨g, 5, none⟩) hv hg _), by omega⟩
    · go_simp
      refine hK.out _ _ (hv.alloc _) (fun _ => ?_)
      clear hK
      try simp only [Act.put, sA, s0, sS]
      have hx0 : Ext v0 (v0.alloc (.cells #[.string v.who, .int .i64 v.kind, .string v.text, .slice X p q] 39)) := (Ext.refl v0).alloc _
      have hl : Blk (v0.alloc (.cells #[.string v.who, .int .i64 v.kind, .string v.text, .slice X p q] 39)) v0.heap.size 39 #[.string v.who, .int .i64 v.kind, .string v.text, .slice X p q] := Blk.new' rfl
      generalize v0.alloc (.cells #[.string v.who, .int .i64 v.kind, .string v.text, .slice X p q] 39) = vl at hx0 hl ⊢
      generalize v0.heap.size = gl at hl ⊢
      have HL := Lib.hid hl
      have hv2 := hv.trans hx0
      have HB := Lib.hid (HB.out.ext hx0)
      have hv := hv2
      clear hv2 hx0 hl
      refine wpAnyH_one (i := 4) (by kernel_rfl) rfl (by kernel_rfl) ?_
      have hc0 := HB.out.cell
      go_simp
      try simp only [Act.put, sA, s0, sS]
      clear hc0
      refine wpAnyH_one (i := 5) (by kernel_rfl) rfl (by kernel_rfl) ?_
      go_simp
      refine (HCL.out vl hv).mono ?_
      rintro e vc ⟨v', rfl, hown, hx0⟩
      have hgb : g < vl.heap.size := HB.out.lt
      have hwb : w0.heap.size ≤ vl.heap.size := hv.size_le
      have hbs : vl.heap.size ≤ vc.heap.size := hx0.size_le
      generalize vl.heap.size = base at hown hgb hwb hbs
      have hv2 := hv.trans hx0
      refine ⟨hv2, ?_⟩
      try simp only [Act.put, sA, s0, sS]
      have HO := Lib.hid hown
      have HB := Lib.hid (HB.out.ext hx0)
      have HL := Lib.hid (HL.out.ext hx0)
      have hv := hv2
      clear hv2 hx0 hown
      refine wpAnyH_one (i := 8) (by kernel_rfl) rfl (by kernel_rfl) ?_
      refine wp_append_w (R := Vot) (fun h => Vot.one h) w0 vc _ _ 26 39 i0 z0 rfl Tryz.underlying26 hi0 hz0 hs0 hby0 hzk0 (by decide) base v' r.votes rfl HO.out gl 1 [.string v.who, .int .i64 v.kind, .string v.text, .slice X p q] v rfl (HL.out.range 0 _ (fun j _ => by simp)) rfl HVT.out (by unfold maxLen; omega) (by omega) hbs ?_
      intro gg cap v4 hown4 hgrow
      have hlt := HO.out.lt
      have hv4 : Ext w0 v4 := Below.grown hv hgrow hv.size_le (fun k e => by have := (hlt k e).1; omega)
      have HB4 : Hid (Blk v4 g 28 #[.int .i64 r.number, .string r.author, .string r.branch, .slice A' n' m', .int .i64 r.state, .slice B' p' q']) := Lib.hid (HB.out.grown hgrow (fun e => by have := (hlt g e).1; omega))
      have HO4 := Lib.hid hown4
      rw [HP'.out]
      refine ⟨hv4, ?_⟩
      try simp only [Act.put, sA, s0, sS]
      clear hv
      have hv := hv4
      clear hv4 hgrow hlt hown4
      refine tf (i := 9) (v := .pointer (some ⟨g, 0, none⟩)) rfl rfl (fun _ => rfl) hv ?_
      try simp only [Act.put, sA, s0, sS]
      refine take_any (i := 10) (v := .pointer (some ⟨g, 5, none⟩)) rfl rfl (by kernel_rfl) (by kernel_rfl) (by kernel_rfl) (.inl ⟨(by kernel_rfl), fun W' hW' => ?fa⟩) hv ?_
      case fa => go_simp
      try simp only [Act.put, sA, s0, sS]
      have hc4 := HB4.out.cell
      have hf4 := HB4.out.frozen
      refine wpAnyH_one (i := 11) (by kernel_rfl) rfl (by kernel_rfl) ?_
      go_simp
      refine ⟨Ext.setCell (p := ⟨g, 5, none⟩) hv hg _, ?_⟩
      try simp only [Act.put, sA, s0, sS]
      clear hc4 hf4
      refine wpAnyH_done (by kernel_rfl) (NoPanic.normal ?_) _
      go_wp2_with fail
      go_meet
      have hgg := (HO4.out.lt gg rfl).1
      have hb5 := HB4.out.set_ 5 (.slice (some ⟨gg, 0, none⟩) (p' + 1) cap)
      have hp1 : p' + 1 = r.votes.length + 1 := by rw [HP'.out]
      exact ⟨gg, cap, base, Lib.hid hb5, Lib.hid (by rw [hp1]; exact HO4.out.far (p := ⟨g, 5, none⟩) (fun k e => by have := (HO4.out.lt k e).1; show k ≠ g; omega) _), Lib.hid (Ext.setCell (p := ⟨g, 5, none⟩) hv hg _), by omega⟩
  case rest =>
    obtain ⟨gg, cap, base, HB4, HO4, HW4, hgb⟩ := hcut
    have HR4 : Hid (∀ (W : World) (st : Int), Ext w0 W → OwnW 4 Vot 39 w0 W base All (.slice (some ⟨gg, 0, none⟩) (p' + 1) cap) (r.votes ++ [v]) → Rev W All [.int .i64 r.number, .string r.author, .string r.branch, .slice A' n' m', .int .i64 st, .slice (some ⟨gg, 0, none⟩) (p' + 1) cap] { r with votes := r.votes ++ [v], state := st }) := Lib.hid fun W st hW ho => by
      obtain ⟨A9, c9, e9, hle, hsl⟩ := ho.sls Vot.steadfast hW
      have hl9 : (r.votes ++ [v]).length = p' + 1 := by rw [List.length_append, HP'.out]; rfl
      obtain ⟨rfl, _, rfl⟩ : some ⟨gg, 0, none⟩ = A9 ∧ p' + 1 = (r.votes ++ [v]).length ∧ cap = c9 := by simpa using e9
      exact ⟨A', n', m', _, _, _, rfl, ⟨HN'.out, HM'.out, Ds.ext HID.out hW⟩, hl9, by rw [hl9] at hle; exact hle, hsl⟩
    have HFX : Hid (({ r with votes := r.votes ++ [v] } : Rv).Fits) := Lib.hid ⟨HRF.out.author, HRF.out.branch, HRF.out.ids, by show (r.votes ++ [v]).length ≤ _; rw [List.length_append, List.length_singleton]; omega, fun x hx => by
      rcases List.mem_append.1 hx with hx | hx
      · exact HRF.out.each x hx
      · rw [List.mem_singleton.1 hx]; exact HVF.out⟩
    have HC0 : Hid (∀ W, Ext wc W → ∀ i, W.cell? ⟨g, i, none⟩ = #[.int .i64 r.number, .string r.author, .string r.branch, .slice A' n' m', .int .i64 r.state, .slice (some ⟨gg, 0, none⟩) (p' + 1) cap][i]?) := Lib.hid fun W hW => (HB4.out.ext hW).cell
    have HC1 : Hid (∀ W, Ext wc W → ∀ i, W.cell? ⟨gn, i, none⟩ = (#[.int .i64 need] : Array Value)[i]?) := Lib.hid fun W hW => (HBN.out.ext (HW4.out.trans hW)).cell
    have HST : Hid (∀ W, Ext wc W → Calls Tryz.prog 71 #[.agg #[.int .i64 r.number, .string r.author, .string r.branch, .slice A' n' m', .int .i64 r.state, .slice (some ⟨gg, 0, none⟩) (p' + 1) cap], .int .i64 need] W (Ret (.int .i64 (Vw.follows { r with votes := r.votes ++ [v] } need)) W)) := Lib.hid fun W hW => state_any _ { r with votes := r.votes ++ [v] } need W (HR4.out W r.state (HW4.out.trans hW) (HO4.out.ext hW)) HFX.out
    have HVO : Hid (Vw.voted v need r = { r with votes := r.votes ++ [v], state := Vw.follows { r with votes := r.votes ++ [v] } need }) := Lib.hid rfl
    generalize Vw.follows { r with votes := r.votes ++ [v] } need = S at HST HVO
    go_upto_region 9 with fail
    refine wp_region_ext_tail 8 (by kernel_rfl) (by kernel_rfl) ?_
    simp only [List.take_succ_cons, List.take_zero, List.drop_succ_cons, List.drop_zero]
    repeat (first | go_big_quiet_skip | (go_big_quiet_want; first | (go_big_quiet_op; go_big_quiet_on) | (apply quiet_at; intro W hW; have hc0 := HC0.out W hW; have hc1 := HC1.out W hW; go_simp; (first | exact rfl | (simp only [Oper.quietUpon, true_and]; first | exact rfl | (go_at_call 71; exact quiet_call hW (HST.out W hW) (fun _ _ h => h))) | (go_at_call 71; exact quiet_call hW (HST.out W hW) (fun _ _ h => h))); go_big_quiet_on; simp only [Act.put, sA, s0, sS])))
    refine wpQuiet_nil ?_
    intro w5 hx5
    have HB5 := Lib.hid (HB4.out.ext hx5)
    have HO5 := Lib.hid (HO4.out.ext hx5)
    have HW5 := Lib.hid (HW4.out.trans hx5)
    obtain ⟨hc0, hf0, hl0⟩ := HB5.out.all
    clear hx5 HC0 HC1 HST HB4 HO4 HW4
    go_wp2_with fail
    go_ret
    refine ⟨rfl, Ext.setCell (p := ⟨g, 4, none⟩) HW5.out hg (.int .i64 S), fun _ => ⟨[.int .i64 r.number, .string r.author, .string r.branch, .slice A' n' m', .int .i64 S, .slice (some ⟨gg, 0, none⟩) (p' + 1) cap], HB5.out.set_ 4 (.int .i64 S), ?_⟩⟩
    rw [HVO.out]
    exact HR4.out _ S (Ext.setCell (p := ⟨g, 4, none⟩) HW5.out hg (.int .i64 S)) (HO5.out.far (p := ⟨g, 4, none⟩) (fun k e => by have := (HO5.out.lt k e).1; show k ≠ g; omega) _)
theorem Vw.addVote_eq (l : List Rv) (number : Int) (v : Vt) (need : Int) : Vw.addVote l number v need = if Vw.check l ≠ 0 then ([], Vw.check l) else if need < 0 then ([], 2) else Vw.changed l number (Vw.votOf v need) := rfl
set_option maxHeartbeats 8000000 in
set_option maxRecDepth 100000 in
/-- review.Vote. -/
theorem vote_any (A : Option Addr) (n c : Nat) (number : Int) (v : Vt) (need : Int) (X : Option Addr) (p q : Nat) (l : List Rv) (w : World) (hg : Glob w) (h : Rs w All A l) (hn : l.length = n) (hb : n ≤ 1000000000) (hf : ∀ r ∈ l, r.Fits) (hd : Ds w All X v.ids) (hp : v.ids.length = p) (hpq : p ≤ q) (hvf : v.Fits) :
    Calls Tryz.prog 41 #[.slice A n c, .int .i64 number, .agg #[.string v.who, .int .i64 v.kind, .string v.text, .slice X p q], .int .i64 need] w (GivesR w (Vw.addVote l number v need)) := by
  have HC : Hid (∀ W, Ext w W → Calls Tryz.prog 14 #[.slice A n c] W (Ret (.int .i64 (Vw.check l)) W)) := Lib.hid fun W hW => ccheck_any A n c l W (hg.ext hW) (Rs.ext h hW) hn hb hf
  have HCH : Hid (∀ (W : World) (gv gn : Nat), Vw.check l = 0 → Ext w W → Blk W gv 39 #[.string v.who, .int .i64 v.kind, .string v.text, .slice X p q] → Blk W gn 3 #[.int .i64 need] → Calls Tryz.prog 59 #[.slice A n c, .int .i64 number, .func (.func 69) #[] #[.pointer (some ⟨gv, 0, none⟩), .pointer (some ⟨gn, 0, none⟩)]] W (GivesR W (Vw.changed l number (Vw.votOf v need)))) :=
    Lib.hid fun W gv gn hk hW b1 b2 => changed_any A n c number l W (Rs.ext h hW) hn hb 69 _ (enters_of Tryz.func69 (by kernel_rfl) rfl) (Vw.votOf v need) fun W' g cs r hx hgl hm hbk hr => by
      obtain ⟨i, hi⟩ := List.getElem?_of_mem hm
      have h100 := (Vw.body_zero.1 ((Vw.check_zero.1 hk).2 i r hi).2).2.2.2.1
      exact vot1_any v need X p q g gv gn W W' (hg.ext hW) hx hgl cs r b1 b2 (Ds.ext hd hW) hp hpq hvf (hf r hm) (by omega) hbk hr
  have HU := Lib.hid (Vw.addVote_eq l number v need)
  generalize Vw.addVote l number v need = R at HU ⊢
  generalize Vw.changed l number (Vw.votOf v need) = Z at HU HCH
  generalize Vw.check l = K at HU HC HCH
  clear h hn hf hg hd hp hpq hvf
  go_enter Tryz.func41, Tryz.ntmps41
  have hx := Ext.refl w
  go_wp2_with fail
  refine (HC.out _ ((hx.alloc _).alloc _)).mono ?_
  rintro e w1 ⟨rfl, hx0⟩
  have hb0 := Blk.ext hx0 (Blk.alloc (Blk.new' (w := w) (g := w.heap.size) (cs := #[.string v.who, .int .i64 v.kind, .string v.text, .slice X p q]) (t := 39) rfl) (.cells #[.int .i64 need] 3))
  have hb1 := Blk.ext hx0 (Blk.new' (w := w.alloc (.cells #[.string v.who, .int .i64 v.kind, .string v.text, .slice X p q] 39)) (g := w.heap.size + 1) (cs := #[.int .i64 need]) (t := 3) (by simp))
  have HX1 := Lib.hid (((hx.alloc _).alloc _).trans hx0)
  have HCC := Lib.hid (fun hk => HCH.out w1 _ _ hk HX1.out hb0 hb1)
  obtain ⟨hc1, hf1, hl1⟩ := hb1.all
  clear hx hx0 HC HCH hb0 hb1
  by_cases h0 : K = 0
  rotate_left
  · have hk0 : (K == 0) = false := by simpa using h0
    have hv : R = ([], K) := by rw [HU.out, if_pos h0]
    clear HU HCC h0
    subst hv
    go_wp2_with fail
    go_ret2
    exact ⟨none, 0, 0, rfl, Revs.nil _, HX1.out⟩
  subst h0
  have HC2 := Lib.hid (HCC.out rfl)
  clear HCC
  by_cases hnd : need < 0
  · have k1 : decide (need < 0) = true := decide_eq_true hnd
    have hv : R = ([], 2) := by rw [HU.out, if_neg (by simp), if_pos hnd]
    clear HU HC2
    subst hv
    go_wp2_with fail
    go_ret2
    exact ⟨none, 0, 0, rfl, Revs.nil _, HX1.out⟩
  have k1 : decide (need < 0) = false := decide_eq_false hnd
  have hv : R = Z := by rw [HU.out, if_neg (by simp), if_neg hnd]
  clear HU
  subst hv
  go_wp2_with fail
  refine HC2.out.mono ?_
  rintro e w2 ⟨A1, n1, c1, rfl, hrv, hx2⟩
  have HRV := Lib.hid hrv
  have HX2 := Lib.hid (HX1.out.trans hx2)
  clear hrv hx2
  go_wp2_with fail
  go_ret2
  exact ⟨_, _, _, rfl, HRV.out, HX2.out⟩
end Go.Proofs.YtojfgidoobgcaaaGreatDoor
