/- Walks: the reference's copies of lists, find, with. Walks: the reference's Propose, Update, Close, Vote. Walks: ReviewActs. -/
import Derived.Test.YtojfgidoobgcaaaGreatDoorOg
import Derived.Test.YtojfgidoobgcaaaGreatDoorOi
import Derived.Test.YtojfgidoobgcaaaGreatDoorNt
import Derived.Test.YtojfgidoobgcaaaGreatDoorHeld
import Derived.Test.YtojfgidoobgcaaaGreatDoorMf
set_option linter.unusedSimpArgs false
set_option linter.unusedVariables false
namespace Go.Proofs.YtojfgidoobgcaaaGreatDoor
open Go Go.RowKit

section
variable {P : Program}
theorem run_append_zeroO {w : World} (base : Nat) (t ty e : TypeId) (i : TypeInfo) (size : Nat) (ht : P.underlying t = some (.slice e)) (hi : P.info? e = some i)
    (v : Value) (n : Nat) (xs : List Value) (hown : w.ownsRow base e size v n xs) (ad : Option Addr) (c : Nat) :
    (Builtin.append_ #[t, t] ty #[v, .slice ad 0 c]).run P w = .ok v w := by
  cases ad with
  | none => rcases hown.2 with ⟨rfl, rfl⟩ | ⟨g, cap, cur, rfl, _, _, hnc, _⟩
            · simp [Builtin.append_, run_underlying ht, sizeOf, typeInfo, hi, Builtin.lenOf, Builtin.firstCells]
            · simp [Builtin.append_, run_underlying ht, sizeOf, typeInfo, hi, Builtin.lenOf, Builtin.firstCells, hnc, storeCells]
  | some ad => exact run_append_zeroN base t ty e i size ht hi v n xs hown ad c
/-- append(v, l2...) of a list of structs, wherever it lies, as one operation. -/
theorem wp_append_sls {K : Act → World → Prop} {Q : Exit → Act → World → Prop} {α : Type} {k by_ : Nat} {R : Reads α} (ho1 : ∀ {w F c x}, R w F c x → ∀ u ∈ c, Value.oneCell' u = true) (w0 w : World) (hw : Ext w0 w) {o : Oper} {a : Act} (s x : Operand) (t e : TypeId) (i : TypeInfo) (z : Value)
    (ho : o.op = .call { callee := .builtin .append, args := #[s, x], argTypes := #[t, t] }) (ht : P.underlying t = some (.slice e)) (hi : P.info? e = some i) (hz : i.zero = some z) (hsz : i.size = k) (hby : i.bytes = by_) (hzk : z.cells.size = k) (hk : 0 < k)
    (base : Nat) (v : Value) (l1 : List α) (hs : a.eval s = v) (h : OwnW k R e w0 w base All v l1) (A : Option Addr) (m c : Nat) (l2 : List α) (hx : a.eval x = .slice A m c) (hl : Sls k R w0 All A l2) (hm : l2.length = m)
    (hn : l1.length + m ≤ maxLen) (hbig : (l1.length + m) * by_ ≤ 140737488355328) (hbase : base ≤ w.heap.size)
    (hK : ∀ v' w', OwnW k R e w0 w' base All v' (l1 ++ l2) → w.grownBy w' v.ownBlock → K (a.put o.dst v') w') : o.wp P a w K Q := by
  obtain ⟨cs, h1, h2, h3, h4⟩ := h
  rcases Nat.eq_zero_or_pos m with h0 | h0
  · subst h0
    obtain rfl : l2 = [] := List.length_eq_zero_iff.1 hm
    have hrun := run_append_zeroO (P := P) (w := w) base t o.type e i k ht hi v l1.length cs.flatten h3 A c
    have := hK v w (by rw [List.append_nil]; exact ⟨cs, h1, h2, h3, h4⟩) (World.grownBy.refl _ _)
    unfold Oper.wp
    simp [execOp, ho, resolve, invoke, builtin, hs, hx, hrun, Result.andThen]
    exact this
  · obtain ⟨ds, g1, g2, g3, g4⟩ := hl
    obtain ⟨b, off, rfl, hb, _, hr⟩ := g3 (by omega)
    refine wp_append_lies w s x t ho base e i z k by_ ht hi hz hsz hby hzk hk v l1.length cs.flatten hs h3 ⟨b, off, none⟩ m c ds.flatten hx (by rw [flatten_len g2, g1, hm]) (fun j u hu => ?_) (flat_one' ho1 g1 g4) h0 hn hbig hbase w.heap.size rfl (fun g cap w' hown hgrow _ _ => ?_)
    · rw [Addr.add_mid]
      exact (hw.cell (p := ⟨b, _, none⟩) hb).trans (hr j u hu)
    · refine hK _ w' ⟨cs ++ ds, by simp [h1, g1], fun d hd => ?_, ?_, fun j d q hd hq => ?_⟩ hgrow
      · rcases List.mem_append.1 hd with hd | hd
        · exact h2 d hd
        · exact g2 d hd
      · rw [List.length_append, hm, List.flatten_append]
        exact hown
      · rcases Nat.lt_or_ge j cs.length with hj | hj
        · rw [List.getElem?_append_left hj] at hd
          rw [List.getElem?_append_left (by omega)] at hq
          exact h4 j d q hd hq
        · rw [List.getElem?_append_right hj] at hd
          rw [List.getElem?_append_right (by omega), ← h1] at hq
          exact g4 _ d q hd hq
theorem wpList_append_sls {ops : Array Oper} {rest : List Oper} {Q : Exit → Act → World → Prop} {α : Type} {k by_ : Nat} {R : Reads α} (ho1 : ∀ {w F c x}, R w F c x → ∀ u ∈ c, Value.oneCell' u = true) (w0 w : World) (hw : Ext w0 w) {o : Oper} {a : Act} (hgd : o.guard = none) (s x : Operand) (t e : TypeId) (i : TypeInfo) (z : Value)
    (ho : o.op = .call { callee := .builtin .append, args := #[s, x], argTypes := #[t, t] }) (ht : P.underlying t = some (.slice e)) (hi : P.info? e = some i) (hz : i.zero = some z) (hsz : i.size = k) (hby : i.bytes = by_) (hzk : z.cells.size = k) (hk : 0 < k)
    (base : Nat) (v : Value) (l1 : List α) (hs : a.eval s = v) (h : OwnW k R e w0 w base All v l1) (A : Option Addr) (m c : Nat) (l2 : List α) (hx : a.eval x = .slice A m c) (hl : Sls k R w0 All A l2) (hm : l2.length = m)
    (hn : l1.length + m ≤ maxLen) (hbig : (l1.length + m) * by_ ≤ 140737488355328) (hbase : base ≤ w.heap.size)
    (hK : ∀ v' w', OwnW k R e w0 w' base All v' (l1 ++ l2) → w.grownBy w' v.ownBlock → wpList P ops Q rest (a.put o.dst v') w') : wpList P ops Q (o :: rest) a w :=
  wpList_plain hgd fun _ hK2 => wp_append_sls ho1 w0 w hw s x t e i z ho ht hi hz hsz hby hzk hk base v l1 hs h A m c l2 hx hl hm hn hbig hbase fun v' w' h1 h2 => hK2 _ _ (hK v' w' h1 h2)
end
/-- An empty literal owns its row. -/
theorem OwnW.lit {α : Type} (k : Nat) (R : Reads α) (t : TypeId) (w0 w : World) : OwnW k R t w0 (w.alloc (.cells #[] t)) w.heap.size All (.slice (some ⟨w.heap.size, 0, none⟩) 0 0) [] :=
  ⟨[], rfl, by simp, ⟨by simp, .inr ⟨w.heap.size, 0, #[], rfl, Nat.le_refl _, (Blk.new' rfl).eq, Nat.le_refl _, Nat.zero_le _, by simp, by simp⟩⟩, fun i c x h => by simp at h⟩
def Rv.zero : Rv := ⟨0, ⟨#[]⟩, ⟨#[]⟩, [], 0, []⟩
def Vw.find (l : List Rv) (number : Int) : Rv × Int :=
  if number < 1 then (Rv.zero, (7 : Int)) else match l[(number - 1).toNat]? with
  | none => (Rv.zero, (7 : Int))
  | some r => if Vw.ended r = true then (Rv.zero, (16 : Int)) else (r, (0 : Int))
/-- A review and an error. -/
def GivesF (w : World) (R : Rv × Int) (e : Ending) (w' : World) : Prop := ∃ c : List Value, e = .returned (.tuple #[.agg c.toArray, .int .i64 R.2]) ∧ Rev w' All c R.1 ∧ Ext w w'
theorem zero_reads (w : World) : Rev w All [.int .i64 0, .string ⟨#[]⟩, .string ⟨#[]⟩, .slice none 0 0, .int .i64 0, .slice none 0 0] Rv.zero := ⟨none, 0, 0, none, 0, 0, rfl, ⟨rfl, Nat.le_refl _, Sls.nil _ _ _ _⟩, rfl, Nat.le_refl _, Sls.nil _ _ _ _⟩
set_option maxHeartbeats 8000000 in
set_option maxRecDepth 100000 in
/-- quiltref55.find. -/
theorem find_any (A : Option Addr) (n c : Nat) (number : Int) (l : List Rv) (w : World) (h : Rs w All A l) (hn : l.length = n) (hb : n ≤ 1000000000) :
    Calls Tryz.prog 80 #[.slice A n c, .int .i64 number] w (GivesF w (Vw.find l number)) := by
  have HV : Hid (Vw.find l number = if number < 1 then (Rv.zero, (7 : Int)) else match l[(number - 1).toNat]? with
    | none => (Rv.zero, (7 : Int))
    | some r => if Vw.ended r = true then (Rv.zero, (16 : Int)) else (r, (0 : Int))) := Lib.hid rfl
  generalize Vw.find l number = R at HV ⊢
  have HL := Lib.hid h
  have HN := Lib.hid hn
  clear h hn
  by_cases h1 : number < 1
  · have k1 : decide (number < 1) = true := decide_eq_true h1
    have hv : R = (Rv.zero, 7) := by rw [HV.out, if_pos h1]
    clear HV
    subst hv
    go_enter Tryz.func80, Tryz.ntmps80
    have hx := Ext.refl w
    go_wp2_with fail
    refine bodyPost_ret (v := .tuple #[.agg #[.int .i64 0, .string ⟨#[]⟩, .string ⟨#[]⟩, .slice none 0 0, .int .i64 0, .slice none 0 0], .int .i64 7]) ?_ rfl ?_
    · simp only [results, Tryz.results80]
      go_simp
    · exact ⟨[.int .i64 0, .string ⟨#[]⟩, .string ⟨#[]⟩, .slice none 0 0, .int .i64 0, .slice none 0 0], rfl, zero_reads _, hx.alloc _⟩
  have k1 : decide (number < 1) = false := decide_eq_false h1
  by_cases h2 : (n : Int) < number
  · have k2 : decide ((n : Int) < number) = true := decide_eq_true h2
    have hv : R = (Rv.zero, 7) := by
      rw [HV.out, if_neg h1, List.getElem?_eq_none (by have := HN.out; omega)]
    clear HV
    subst hv
    go_enter Tryz.func80, Tryz.ntmps80
    have hx := Ext.refl w
    go_wp2_with fail
    refine bodyPost_ret (v := .tuple #[.agg #[.int .i64 0, .string ⟨#[]⟩, .string ⟨#[]⟩, .slice none 0 0, .int .i64 0, .slice none 0 0], .int .i64 7]) ?_ rfl ?_
    · simp only [results, Tryz.results80]
      go_simp
    · exact ⟨[.int .i64 0, .string ⟨#[]⟩, .string ⟨#[]⟩, .slice none 0 0, .int .i64 0, .slice none 0 0], rfl, zero_reads _, hx.alloc _⟩
  have k2 : decide ((n : Int) < number) = false := decide_eq_false h2
  obtain ⟨k, rfl⟩ : ∃ k : Nat, number = (k : Int) + 1 := ⟨(number - 1).toNat, by omega⟩
  have hkl : k < l.length := by have := HN.out; omega
  have hkn : k < n := by omega
  have e0 : l[k]? = some l[k] := List.getElem?_eq_getElem _
  obtain ⟨b, o, cs, rfl, hbl, _, _, hr, hvt⟩ := HL.out.get e0
  have hv : R = if Vw.ended l[k] = true then (Rv.zero, 16) else (l[k], 0) := by
    rw [HV.out, if_neg h1, show ((k : Int) + 1 - 1).toNat = k by omega, e0]
  have HV := Lib.hid hv
  clear hv
  generalize l[k] = r at e0 hvt HV
  have HR := Lib.hid hvt
  have HE : Hid (∀ W, Ext w W → Calls Tryz.prog 32 #[.agg cs.toArray] W (Ret (.bool (Vw.ended r)) W)) := Lib.hid fun W hW => rended_any cs r W (Rev.steadfast.ext hvt hW)
  obtain ⟨A', n', m', B', p', q', rfl, _, _, _, _⟩ := hvt
  obtain ⟨c0, c1, c2, c3, c4, c5⟩ := cells6 hr
  clear h1 h2 hr e0
  go_enter Tryz.func80, Tryz.ntmps80
  have hx := Ext.refl w
  go_wp2_with fail
  refine (HE.out _ (hx.alloc _)).mono ?_
  rintro e w1 ⟨rfl, hx0⟩
  have hb1 := Blk.ext hx0 (Blk.new' (w := w) (g := w.heap.size) (cs := #[.int .i64 0, .string ⟨#[]⟩, .string ⟨#[]⟩, .slice none 0 0, .int .i64 0, .slice none 0 0]) (t := 28) rfl)
  have HX1 := Lib.hid ((hx.alloc (.cells #[.int .i64 0, .string ⟨#[]⟩, .string ⟨#[]⟩, .slice none 0 0, .int .i64 0, .slice none 0 0] 28)).trans hx0)
  have HB1 := Lib.hid hb1
  obtain ⟨hc0, hf0, hl0⟩ := hb1.all
  have hc2 : ∀ i, w1.cell? ⟨b, i, none⟩ = w.cell? ⟨b, i, none⟩ := fun i => HX1.out.cell (p := ⟨b, i, none⟩) hbl
  rw [← hc2] at c0 c1 c2 c3 c4 c5
  have hlw : w.heap.size ≤ w.heap.size := Nat.le_refl _
  have hne : b ≠ w.heap.size := Nat.ne_of_lt hbl
  clear hx0 hx HE hb1 hc2
  cases hen : Vw.ended r
  rotate_left
  · have hv : R = (Rv.zero, 16) := by rw [HV.out, if_pos hen]
    clear HV hen
    subst hv
    go_wp2_with fail
    have hbn := Blk.whole HB1.out (vs := #[.int .i64 0, .string ⟨#[]⟩, .string ⟨#[]⟩, .slice none 0 0, .int .i64 0, .slice none 0 0]) rfl
    have hxn := Ext.putMany (Nat.le_refl _) [.int .i64 0, .string ⟨#[]⟩, .string ⟨#[]⟩, .slice none 0 0, .int .i64 0, .slice none 0 0] 0 _ HX1.out
    change bodyPost _ _ _ _ _ (w1.setCells w.heap.size 0 [.int .i64 0, .string ⟨#[]⟩, .string ⟨#[]⟩, .slice none 0 0, .int .i64 0, .slice none 0 0])
    have hbn2 : Blk (w1.setCells w.heap.size 0 [.int .i64 0, .string ⟨#[]⟩, .string ⟨#[]⟩, .slice none 0 0, .int .i64 0, .slice none 0 0]) w.heap.size 28 #[.int .i64 0, .string ⟨#[]⟩, .string ⟨#[]⟩, .slice none 0 0, .int .i64 0, .slice none 0 0] := hbn
    generalize w1.setCells w.heap.size 0 [.int .i64 0, .string ⟨#[]⟩, .string ⟨#[]⟩, .slice none 0 0, .int .i64 0, .slice none 0 0] = w9 at hbn2 hxn ⊢
    clear hbn
    obtain ⟨hc9, hf9, hl9⟩ := hbn2.all
    refine bodyPost_ret (v := .tuple #[.agg #[.int .i64 0, .string ⟨#[]⟩, .string ⟨#[]⟩, .slice none 0 0, .int .i64 0, .slice none 0 0], .int .i64 16]) ?_ rfl ?_
    · simp only [results, Tryz.results80]
      go_simp
    · exact ⟨[.int .i64 0, .string ⟨#[]⟩, .string ⟨#[]⟩, .slice none 0 0, .int .i64 0, .slice none 0 0], rfl, zero_reads _, hxn⟩
  have hv : R = (r, 0) := by rw [HV.out, if_neg (by rw [hen]; decide)]
  clear HV hen
  subst hv
  go_wp2_with fail
  have hbn := Blk.whole HB1.out (vs := #[.int .i64 r.number, .string r.author, .string r.branch, .slice A' n' m', .int .i64 r.state, .slice B' p' q']) rfl
  have hxn := Ext.putMany (Nat.le_refl _) [.int .i64 r.number, .string r.author, .string r.branch, .slice A' n' m', .int .i64 r.state, .slice B' p' q'] 0 _ HX1.out
  change bodyPost _ _ _ _ _ (w1.setCells w.heap.size 0 [.int .i64 r.number, .string r.author, .string r.branch, .slice A' n' m', .int .i64 r.state, .slice B' p' q'])
  have hbn2 : Blk (w1.setCells w.heap.size 0 [.int .i64 r.number, .string r.author, .string r.branch, .slice A' n' m', .int .i64 r.state, .slice B' p' q']) w.heap.size 28 #[.int .i64 r.number, .string r.author, .string r.branch, .slice A' n' m', .int .i64 r.state, .slice B' p' q'] := hbn
  generalize w1.setCells w.heap.size 0 [.int .i64 r.number, .string r.author, .string r.branch, .slice A' n' m', .int .i64 r.state, .slice B' p' q'] = w9 at hbn2 hxn ⊢
  clear hbn
  obtain ⟨hc9, hf9, hl9⟩ := hbn2.all
  refine bodyPost_ret (v := .tuple #[.agg #[.int .i64 r.number, .string r.author, .string r.branch, .slice A' n' m', .int .i64 r.state, .slice B' p' q'], .int .i64 0]) ?_ rfl ?_
  · simp only [results, Tryz.results80]
    go_simp
  · exact ⟨[.int .i64 r.number, .string r.author, .string r.branch, .slice A' n' m', .int .i64 r.state, .slice B' p' q'], rfl, Rev.steadfast.ext HR.out hxn, hxn⟩
set_option maxHeartbeats 8000000 in
set_option maxRecDepth 100000 in
/-- quiltref55.with. -/
theorem with_any (A : Option Addr) (n c : Nat) (cs : List Value) (l : List Rv) (r : Rv) (k : Nat) (w : World) (h : Rs w All A l) (hn : l.length = n) (hb : n ≤ 1000000000) (hr : Rev w All cs r) (hk : r.number = (k : Int) + 1) (hkn : k < n) :
    Calls Tryz.prog 81 #[.slice A n c, .agg cs.toArray] w (fun e w' => ∃ A' n' c', e = .returned (.slice A' n' c') ∧ Revs w' A' n' c' (l.set k r) ∧ Ext w w') := by
  have HR := Lib.hid hr
  have hone := hr.one
  obtain ⟨A', n', m', B', p', q', rfl, _, _, _, _⟩ := hr
  have HL := Lib.hid h
  have HN := Lib.hid hn
  have hkl : k < l.length := by omega
  obtain ⟨i0, z0, hi0, hz0, hs0, hby0, hzk0⟩ := rinfo
  rw [hk]
  clear h hn
  go_enter Tryz.func81, Tryz.ntmps81
  have hx := Ext.refl w
  have hown := OwnW.lit 6 Rev 28 w (w.alloc (.cells #[.int .i64 ((k : Int) + 1), .string r.author, .string r.branch, .slice A' n' m', .int .i64 r.state, .slice B' p' q'] 28))
  rw [show (w.alloc (.cells #[.int .i64 ((k : Int) + 1), .string r.author, .string r.branch, .slice A' n' m', .int .i64 r.state, .slice B' p' q'] 28)).heap.size = w.heap.size + 1 by simp] at hown
  have HOW := Lib.hid hown
  have hx2 := (hx.alloc (.cells #[.int .i64 ((k : Int) + 1), .string r.author, .string r.branch, .slice A' n' m', .int .i64 r.state, .slice B' p' q'] 28)).alloc (.cells #[] 28)
  have hb0 := Blk.alloc (Blk.new' (w := w) (g := w.heap.size) (cs := #[.int .i64 ((k : Int) + 1), .string r.author, .string r.branch, .slice A' n' m', .int .i64 r.state, .slice B' p' q']) (t := 28) rfl) (.cells #[] 28)
  have HB0 := Lib.hid hb0
  have HX2 := Lib.hid hx2
  clear hown hb0 hx2 hone
  go_wp2_with (at_builtin; refine wpList_append_sls (R := Rev) (fun h => Rev.one h) w _ HX2.out rfl _ _ 22 28 i0 z0 rfl Tryz.underlying22 hi0 hz0 hs0 hby0 hzk0 (by decide) (w.heap.size + 1) _ [] rfl HOW.out A n c l rfl HL.out HN.out (by unfold maxLen; simp; omega) (by simp; omega) (by simp) ?_; intro v1 w1 hown1 hgrow; have hlt := HOW.out.lt; have hx1 : Ext w w1 := Below.grown HX2.out hgrow HX2.out.size_le (fun j e => by have := (hlt j e).1; omega); have hb1 := HB0.out.grown hgrow (fun e => by have := (hlt _ e).1; omega); rw [List.nil_append] at hown1; obtain ⟨g2, c2, cur, rfl, hbg, hlt2, hcap, hblk, hsz⟩ := hown1.has (by omega); rw [HN.out] at hown1 hcap hsz ⊢; have HO1 := Lib.hid hown1; have HX1 := Lib.hid hx1; obtain ⟨hcr, hfr, hlr⟩ := hblk.all; obtain ⟨hc1, hf1, hl1⟩ := hb1.all; have hs : ∀ j, j < 6 → ∃ x, cur[k * 6 + j]? = some x := fun j hj => ⟨_, Array.getElem?_eq_getElem (by omega)⟩; obtain ⟨x0, s0⟩ := hs 0 (by decide); obtain ⟨x1, s1⟩ := hs 1 (by decide); obtain ⟨x2, s2⟩ := hs 2 (by decide); obtain ⟨x3, s3⟩ := hs 3 (by decide); obtain ⟨x4, s4⟩ := hs 4 (by decide); obtain ⟨x5, s5⟩ := hs 5 (by decide); rw [Nat.add_zero] at s0; have HG : Hid (w.heap.size ≤ g2) := Lib.hid (by omega); clear hs hsz hx hx1 hown1 hgrow hlt hb1 hblk HOW HB0 HX2)
  rw [hk] at HR
  have hput := HO1.out.put (i := k) hkl (c := [.int .i64 ((k : Int) + 1), .string r.author, .string r.branch, .slice A' n' m', .int .i64 r.state, .slice B' p' q']) rfl HR.out
  have hxa := Ext.putMany (w := w) (b := g2) HG.out [.int .i64 ((k : Int) + 1), .string r.author, .string r.branch, .slice A' n' m', .int .i64 r.state, .slice B' p' q'] (k * 6) _ HX1.out
  obtain ⟨A9, n9, c9, e9, hrv⟩ := hput.revs hxa
  obtain ⟨rfl, rfl, rfl⟩ : some ⟨g2, 0, none⟩ = A9 ∧ n = n9 ∧ c2 = c9 := by simpa using e9
  go_ret
  exact ⟨_, _, _, rfl, hrv, hxa⟩
end Go.Proofs.YtojfgidoobgcaaaGreatDoor
namespace Go.Proofs.YtojfgidoobgcaaaGreatDoor
open Go Go.RowKit

theorem any_snoc {α : Type} {p : α → Bool} {l : List α} {k : Nat} {r : α} (h : (l.take k).any p = false) (e : l[k]? = some r) (h0 : p r = false) : (l.take (k + 1)).any p = false := by
  rw [List.take_add_one, e, List.any_append, h]
  simp [h0]
theorem find_ok {l : List Rv} {number : Int} {r : Rv} (h : Vw.find l number = (r, 0)) : ∃ k : Nat, number = (k : Int) + 1 ∧ l[k]? = some r ∧ Vw.ended r = false := by
  unfold Vw.find at h
  split at h
  · cases h
  rename_i h1
  split at h
  · cases h
  rename_i r' hr
  split at h
  · cases h
  rename_i he
  cases h
  exact ⟨(number - 1).toNat, by omega, hr, by simpa using he⟩
theorem changed_find (l : List Rv) (number : Int) (f : Rv → Rv × Int) : Vw.changed l number f = if (Vw.find l number).2 ≠ 0 then ([], (Vw.find l number).2) else if (f (Vw.find l number).1).2 ≠ 0 then ([], (f (Vw.find l number).1).2) else (l.set (number - 1).toNat (f (Vw.find l number).1).1, 0) := by
  unfold Vw.changed Vw.find
  by_cases h1 : number < 1
  · rw [if_pos h1, if_pos h1]; rfl
  rw [if_neg h1, if_neg h1]
  cases hr : l[(number - 1).toNat]? with
  | none => rfl
  | some r =>
    dsimp only
    by_cases he : Vw.ended r = true
    · simp [he]
    · simp [he]
theorem check_number {l : List Rv} {k : Nat} {r : Rv} (h : Vw.check l = 0) (e : l[k]? = some r) : r.number = (k : Int) + 1 := by
  have := ((Vw.check_zero.1 h).2 k r e).1
  rw [this]
  simp
theorem find_lt {l : List Rv} {number : Int} {r : Rv} (h : Vw.find l number = (r, 0)) (hc : Vw.check l = 0) : ∃ k : Nat, number = (k : Int) + 1 ∧ k < l.length ∧ (number - 1).toNat = k ∧ r.number = (k : Int) + 1 ∧ r ∈ l := by
  obtain ⟨k, h1, h2, h3⟩ := find_ok h
  exact ⟨k, h1, (List.getElem?_eq_some_iff.1 h2).1, by omega, check_number hc h2, List.mem_of_getElem? h2⟩
set_option maxHeartbeats 16000000 in
set_option maxRecDepth 100000 in
/-- quiltref55.Propose. -/
theorem rpropose_any (A : Option Addr) (n c : Nat) (author branch : ByteArray) (B : Option Addr) (p q : Nat) (l : List Rv) (d : List Dg) (w : World) (hg : Glob w) (h : Rs w All A l) (hn : l.length = n) (hb : n ≤ 1000000000) (hf : ∀ r ∈ l, r.Fits) (ha : author.size ≤ 1000000000) (hbr : branch.size ≤ 1000000000) (hd : Ds w All B d) (hp : d.length = p) (hpq : p ≤ q) (hpb : p ≤ 1000000000) :
    Calls Tryz.prog 52 #[.slice A n c, .string author, .string branch, .slice B p q] w (GivesN w (Vw.propose l author branch d)) := by
  have HC : Hid (∀ W, Ext w W → Calls Tryz.prog 15 #[.slice A n c] W (Ret (.int .i64 (Vw.check l)) W)) := Lib.hid fun W hW => rcheck_any A n c l W (hg.ext hW) (Rs.ext h hW) hn hb hf
  have HNA : Hid (∀ W, Ext w W → Calls Tryz.prog 75 #[.string author] W (Ret (.bool (Qm.isName author)) W)) := Lib.hid fun W hW => (rname_same author W (Nat.le_trans ha (by decide))).mono fun _ _ h => ⟨h.1, by rw [h.2]; exact Ext.refl _⟩
  have HNB : Hid (∀ W, Ext w W → Calls Tryz.prog 75 #[.string branch] W (Ret (.bool (Qm.isName branch)) W)) := Lib.hid fun W hW => (rname_same branch W (Nat.le_trans hbr (by decide))).mono fun _ _ h => ⟨h.1, by rw [h.2]; exact Ext.refl _⟩
  have HI : Hid (∀ W, Ext w W → Calls Tryz.prog 76 #[.slice B p q] W (Ret (.int .i64 (Vw.ids d)) W)) := Lib.hid fun W hW => rids_any B p q d W (Ds.ext hd hW) hp hpb
  have HVT0 : Hid (∀ W, Ext w W → Rev W All [.int .i64 ((n : Int) + 1), .string author, .string branch, .slice B p q, .int .i64 1, .slice none 0 0] ⟨(n : Int) + 1, author, branch, d, 1, []⟩) := Lib.hid fun W hW => ⟨B, p, q, none, 0, 0, rfl, ⟨hp, hpq, Ds.ext hd hW⟩, rfl, Nat.le_refl _, Sls.nil 4 Vot W All⟩
  have HN := Lib.hid hn
  have HL := Lib.hid h
  have HD := Lib.hid hd
  have HP := Lib.hid hp
  have HFF := Lib.hid hf
  have HU := Lib.hid (Vw.propose_eq l author branch d)
  rw [hn] at HU
  generalize Vw.propose l author branch d = R at HU ⊢
  obtain ⟨KK, hKK⟩ : ∃ K, K = Vw.check l := ⟨_, rfl⟩
  rw [← hKK] at HU HC
  have HKK := Lib.hid hKK
  generalize hE : Vw.ids d = E at HU HI
  generalize Qm.isName author = na at HU HNA
  generalize Qm.isName branch = nb at HU HNB
  clear h hn hf hg hd hp hpq ha hbr hE hKK
  go_enter Tryz.func52, Tryz.ntmps52
  have hx := Ext.refl w
  go_wp2_with fail
  refine (HC.out _ hx).mono ?_
  rintro e w1 ⟨rfl, hx0⟩
  have HX1 := Lib.hid (hx.trans hx0)
  clear hx hx0 HC
  by_cases h0 : KK = 0
  rotate_left
  · have hk0 : (KK == 0) = false := by simpa using h0
    have hv : R = ([], 0, KK) := by rw [HU.out, if_pos h0]
    clear HU h0
    subst hv
    go_wp2_with fail
    go_ret3
    exact ⟨none, 0, 0, rfl, Revs.nil _, HX1.out⟩
  subst h0
  have hn100 : n ≤ 100 := by have := (check_fits HKK.out.symm).1; rw [HN.out] at this; exact this
  go_wp2_with fail
  refine (HNA.out _ HX1.out).mono ?_
  rintro e w2 ⟨rfl, hx0⟩
  replace HX1 := Lib.hid (HX1.out.trans hx0)
  clear hx0
  cases na
  · have hv : R = ([], 0, 5) := by rw [HU.out, if_neg (by simp), if_pos (.inl rfl)]
    clear HU
    subst hv
    go_wp2_with fail
    go_ret3
    exact ⟨none, 0, 0, rfl, Revs.nil _, HX1.out⟩
  go_wp2_with fail
  refine (HNB.out _ HX1.out).mono ?_
  rintro e w3 ⟨rfl, hx0⟩
  replace HX1 := Lib.hid (HX1.out.trans hx0)
  clear hx0
  cases nb
  · have hv : R = ([], 0, 5) := by rw [HU.out, if_neg (by simp), if_pos (.inr rfl)]
    clear HU
    subst hv
    go_wp2_with fail
    go_ret3
    exact ⟨none, 0, 0, rfl, Revs.nil _, HX1.out⟩
  go_wp2_with fail
  refine (HI.out _ HX1.out).mono ?_
  rintro e w4 ⟨rfl, hx0⟩
  replace HX1 := Lib.hid (HX1.out.trans hx0)
  clear hx0
  by_cases h0 : E = 0
  rotate_left
  · have hk0 : (E == 0) = false := by simpa using h0
    have hv : R = ([], 0, E) := by rw [HU.out, if_neg (by simp), if_neg (by simp), if_pos h0]
    clear HU h0
    subst hv
    go_wp2_with fail
    go_ret3
    exact ⟨none, 0, 0, rfl, Revs.nil _, HX1.out⟩
  subst h0
  clear HI HNA HNB
  have HV : Hid (R = if l.any (Vw.likes branch d) = true then ([], 0, 6) else if n = 100 then ([], 0, 4) else (l ++ [⟨(n : Int) + 1, author, branch, d, 1, []⟩], (n : Int) + 1, 0)) := Lib.hid (by rw [HU.out, if_neg (by simp), if_neg (by simp), if_neg (by simp)])
  clear HU
  go_wp2_with fail
  go_loopw [13] (fun i wr => ∃ k : Nat, k ≤ n ∧ i = .int .i64 k ∧ Ext w wr ∧ Hid ((l.take k).any (Vw.likes branch d) = false)) (fun i wr => n - (intOf i).toNat)
  case atStart => exact ⟨0, Nat.zero_le _, rfl, HX1.out, Lib.hid rfl⟩
  case round =>
    clear HX1
    obtain ⟨k, hk, rfl, hx, HO⟩ := hrel
    by_cases hlt : k < n
    · have hkl : k < l.length := by rw [HN.out]; exact hlt
      have e0 : l[k]? = some l[k] := List.getElem?_eq_getElem _
      have fv := HFF.out _ (List.mem_of_getElem? e0)
      obtain ⟨b, o, cs, rfl, hbl, _, _, hr, hvt⟩ := (Rs.ext HL.out hx).get e0
      generalize l[k] = r at e0 hvt fv
      have HE : Hid (∀ W, Ext wr W → Calls Tryz.prog 32 #[.agg cs.toArray] W (Ret (.bool (Vw.ended r)) W)) := Lib.hid fun W hW => rended_any cs r W (Rev.steadfast.ext hvt hW)
      obtain ⟨A', n', m', B', p', q', rfl, ⟨hn', hm', hids⟩, _, _, _⟩ := hvt
      obtain ⟨c0, c1, c2, c3, c4, c5⟩ := cells6 hr
      obtain ⟨s, hs⟩ : ∃ s, s = decide (r.ids = d) := ⟨_, rfl⟩
      have f3 : n' ≤ 1000000000 := by rw [← hn']; exact fv.ids
      have HSM : Hid (∀ W, Ext wr W → Calls Tryz.prog 35 #[.slice A' n' m', .slice B p q] W (Ret (.bool s) W)) := Lib.hid fun W hW => by rw [hs]; exact dsame_any A' B n' m' p q r.ids d W (Ds.ext hids hW) (Ds.ext HD.out (hx.trans hW)) hn' HP.out f3 hpb
      have HLK : Hid (Vw.likes branch d r = (Qm.eqB r.branch branch && (!Vw.ended r && s))) := Lib.hid (by rw [hs]; rfl)
      have E0 := Lib.hid e0
      have HX := Lib.hid hx
      generalize Vw.ended r = en at HE HLK
      clear hr e0 hkl hn' hm' hids hs fv hx hk
      cases k1 : Qm.eqB r.branch branch
      · have j1 : (r.branch.toList == branch.toList) = false := k1
        have HO2 := Lib.hid (any_snoc HO.out E0.out (by rw [HLK.out, k1]; rfl))
        clear HO HLK HE HSM
        go_wp2_with fail
        go_roundw
        case rel => exact ⟨k + 1, hlt, rfl, HX.out, HO2⟩
        case measure => simp [intOf]; omega
      have j1 : (r.branch.toList == branch.toList) = true := k1
      go_wp2_with fail
      refine (HE.out _ (Ext.refl wr)).mono ?_
      rintro e w5 ⟨rfl, hx0⟩
      have HX5 := Lib.hid (HX.out.trans hx0)
      have HY5 := Lib.hid hx0
      have hc2 : ∀ i, w5.cell? ⟨b, i, none⟩ = wr.cell? ⟨b, i, none⟩ := fun i => hx0.cell (p := ⟨b, i, none⟩) hbl
      rw [← hc2] at c0 c1 c2 c3 c4 c5
      clear hc2 hx0 HE HX
      cases en
      rotate_left
      · have HO2 := Lib.hid (any_snoc HO.out E0.out (by rw [HLK.out, k1]; rfl))
        clear HO HLK HSM
        go_wp2_with fail
        go_roundw
        case rel => exact ⟨k + 1, hlt, rfl, HX5.out, HO2⟩
        case measure => simp [intOf]; omega
      go_wp2_with fail
      refine (HSM.out _ HY5.out).mono ?_
      rintro e w6 ⟨rfl, hx0⟩
      have HX6 := Lib.hid (HX5.out.trans hx0)
      clear hx0 HSM HY5 HX5 c0 c1 c2 c3 c4 c5
      cases s
      · have HO2 := Lib.hid (any_snoc HO.out E0.out (by rw [HLK.out, k1]; rfl))
        clear HO HLK
        go_wp2_with fail
        go_roundw
        case rel => exact ⟨k + 1, hlt, rfl, HX6.out, HO2⟩
        case measure => simp [intOf]; omega
      · have hv : R = ([], 0, 6) := by rw [HV.out, if_pos (List.any_eq_true.2 ⟨r, List.mem_of_getElem? E0.out, by rw [HLK.out, k1]; rfl⟩)]
        clear HV
        subst hv
        have HX1 := Lib.hid HX6.out
        go_wp2_with fail
        go_ret3
        exact ⟨none, 0, 0, rfl, Revs.nil _, HX1.out⟩
    · obtain rfl : k = n := by omega
      have hno : l.any (Vw.likes branch d) = false := by
        have := HO.out
        rwa [← HN.out, List.take_length] at this
      have HX1 := Lib.hid hx
      clear hx HO hk
      by_cases h100 : k = 100
      · have hv : R = ([], 0, 4) := by rw [HV.out, if_neg (by simp [hno]), if_pos h100]
        clear HV
        subst hv
        subst h100
        go_wp2_with fail
        go_ret3
        exact ⟨none, 0, 0, rfl, Revs.nil _, HX1.out⟩
      have k9 : decide (100 ≤ (k : Int)) = false := decide_eq_false (by omega)
      have hv : R = (l ++ [⟨(k : Int) + 1, author, branch, d, 1, []⟩], (k : Int) + 1, 0) := by rw [HV.out, if_neg (by simp [hno]), if_neg h100]
      clear HV hno h100
      subst hv
      obtain ⟨i0, z0, hi0, hz0, hs0, hby0, hzk0⟩ := rinfo
      have HOW := Lib.hid (OwnW.lit 6 Rev 28 w wr)
      have HYA := Lib.hid (HX1.out.alloc (.cells #[] 28))
      go_wp2_with (first
        | (at_builtin; refine wpList_append_sls (R := Rev) (fun h => Rev.one h) w _ HYA.out rfl _ _ 22 28 i0 z0 rfl Tryz.underlying22 hi0 hz0 hs0 hby0 hzk0 (by decide) wr.heap.size _ [] rfl HOW.out A k c l rfl HL.out HN.out (by unfold maxLen; simp; omega) (by simp; omega) (by simp) ?_; intro v1 w5 hown1 hgrow1; rw [List.nil_append] at hown1; have hx5 : Ext w w5 := Below.grown HYA.out hgrow1 HYA.out.size_le (fun j e => by have := (HOW.out.lt j e).1; have := HX1.out.size_le; omega); have hsz1 : wr.heap.size ≤ w5.heap.size := (Nat.le_trans (Ext.size_le ((Ext.refl wr).alloc (.cells #[] 28))) hgrow1.size); have HO1 := Lib.hid hown1; have HX5 := Lib.hid hx5; have HSZ := Lib.hid hsz1; clear hown1 hgrow1 hx5 hsz1 HOW HYA)
        | (at_builtin; refine wpList_append_w (R := Rev) (fun h => Rev.one h) w _ rfl _ _ 22 28 i0 z0 rfl Tryz.underlying22 hi0 hz0 hs0 hby0 hzk0 (by decide) wr.heap.size v1 l rfl (HO1.out.ext ((Ext.refl w5).alloc _)) w5.heap.size 1 [.int .i64 ((k : Int) + 1), .string author, .string branch, .slice B p q, .int .i64 1, .slice none 0 0] ⟨(k : Int) + 1, author, branch, d, 1, []⟩ rfl ((Blk.new' (w := w5) (g := w5.heap.size) (cs := #[.int .i64 ((k : Int) + 1), .string author, .string branch, .slice B p q, .int .i64 1, .slice none 0 0]) (t := 28) rfl).range 0 _ (fun j _ => by simp)) rfl (HVT0.out w (Ext.refl w)) (by have := HN.out; unfold maxLen; omega) (by have := HN.out; omega) (by have := HSZ.out; simp; omega) ?_; intro gg cap w6 hown2 hgrow2; have HO2 := Lib.hid hown2; have HX6 : Hid (Ext w w6) := Lib.hid (Below.grown (HX5.out.alloc _) hgrow2 ((HX5.out.alloc _).size_le) (fun j e => by have := (HO1.out.lt j e).1; have := HX1.out.size_le; omega)); clear hown2 hgrow2; rw [HN.out] at *))
      obtain ⟨A9, n9, c9, e9, hrv⟩ := HO2.out.revs HX6.out
      go_ret3
      rw [e9]
      exact ⟨_, _, _, rfl, hrv, HX6.out⟩
set_option maxHeartbeats 16000000 in
set_option maxRecDepth 100000 in
/-- quiltref55.Update. -/
theorem rupdate_any (A : Option Addr) (n c : Nat) (number : Int) (who : ByteArray) (B : Option Addr) (p q : Nat) (d : List Dg) (l : List Rv) (w : World) (hg : Glob w) (h : Rs w All A l) (hn : l.length = n) (hb : n ≤ 1000000000) (hf : ∀ r ∈ l, r.Fits) (hd : Ds w All B d) (hp : d.length = p) (hpq : p ≤ q) (hpb : p ≤ 1000000000) :
    Calls Tryz.prog 53 #[.slice A n c, .int .i64 number, .string who, .slice B p q] w (GivesR w (Vw.update l number who d)) := by
  have HC : Hid (∀ W, Ext w W → Calls Tryz.prog 15 #[.slice A n c] W (Ret (.int .i64 (Vw.check l)) W)) := Lib.hid fun W hW => rcheck_any A n c l W (hg.ext hW) (Rs.ext h hW) hn hb hf
  have HFI : Hid (∀ W, Ext w W → Calls Tryz.prog 80 #[.slice A n c, .int .i64 number] W (GivesF W (Vw.find l number))) := Lib.hid fun W hW => find_any A n c number l W (Rs.ext h hW) hn hb
  have HW : Hid (∀ (W : World) (k : Nat) (cs : List Value) (r : Rv), Ext w W → Rev W All cs r → r.number = (k : Int) + 1 → k < n → Calls Tryz.prog 81 #[.slice A n c, .agg cs.toArray] W (fun e w' => ∃ A' n' c', e = .returned (.slice A' n' c') ∧ Revs w' A' n' c' (l.set k r) ∧ Ext W w')) := Lib.hid fun W k cs r hW hr hk hkn => with_any A n c cs l r k W (Rs.ext h hW) hn hb hr hk hkn
  have HI : Hid (∀ W, Ext w W → Calls Tryz.prog 76 #[.slice B p q] W (Ret (.int .i64 (Vw.ids d)) W)) := Lib.hid fun W hW => rids_any B p q d W (Ds.ext hd hW) hp hpb
  have HD := Lib.hid hd
  have HP := Lib.hid hp
  have HPQ := Lib.hid hpq
  have HN := Lib.hid hn
  have HU := Lib.hid (Vw.update_eq l number who d)
  rw [changed_find] at HU
  generalize Vw.update l number who d = R at HU ⊢
  obtain ⟨KK, hKK⟩ : ∃ K, K = Vw.check l := ⟨_, rfl⟩
  rw [← hKK] at HU HC
  have HKK := Lib.hid hKK
  obtain ⟨Fd, hFd⟩ : ∃ F, F = Vw.find l number := ⟨_, rfl⟩
  rw [← hFd] at HU HFI
  have HFD := Lib.hid hFd
  clear h hn hf hg hd hp hpq hKK hFd
  go_enter Tryz.func53, Tryz.ntmps53
  have hx := Ext.refl w
  go_wp2_with fail
  refine (HC.out _ hx).mono ?_
  rintro e w1 ⟨rfl, hx0⟩
  have HX1 := Lib.hid ((hx).trans hx0)
  clear hx hx0 HC
  by_cases h0 : KK = 0
  rotate_left
  · have hk0 : (KK == 0) = false := by simpa using h0
    have hv : R = ([], KK) := by rw [HU.out, if_pos h0]
    clear HU h0
    subst hv
    go_wp2_with fail
    go_ret2
    exact ⟨none, 0, 0, rfl, Revs.nil _, HX1.out⟩
  subst h0
  go_wp2_with fail
  refine (HFI.out _ HX1.out).mono ?_
  rintro e w2 ⟨cs, rfl, hrf, hx0⟩
  obtain ⟨r, fe⟩ := Fd
  have HX2 := Lib.hid (HX1.out.trans hx0)
  have HRE := Lib.hid hrf
  obtain ⟨A', n', m', B', p', q', rfl, ⟨hn', hm', hids⟩, hp', hpq', hvs⟩ := hrf
  have HYA := Lib.hid ((Ext.refl w2).alloc (.cells #[.int .i64 r.number, .string r.author, .string r.branch, .slice A' n' m', .int .i64 r.state, .slice B' p' q'] 28))
  have HIDS := Lib.hid hids
  have HVS := Lib.hid hvs
  have HN' := Lib.hid hn'
  have HM' := Lib.hid hm'
  have HP' := Lib.hid hp'
  have HQ' := Lib.hid hpq'
  have HBX := Lib.hid (Blk.new' (w := w2) (g := w2.heap.size) (cs := #[.int .i64 r.number, .string r.author, .string r.branch, .slice A' n' m', .int .i64 r.state, .slice B' p' q']) (t := 28) rfl)
  clear hx0 HFI hids hvs hn' hm' hp' hpq'
  dsimp only at HRE HVS HIDS HN' HP' ⊢
  by_cases h0 : fe = 0
  rotate_left
  · have hk0 : (fe == 0) = false := by simpa using h0
    have hv : R = ([], fe) := by rw [HU.out, if_neg (by simp), if_pos h0]
    clear HU h0
    subst hv
    go_wp2_with fail
    have HX1 := Lib.hid (HX2.out.trans HYA.out)
    go_ret2
    exact ⟨none, 0, 0, rfl, Revs.nil _, HX1.out⟩
  subst h0
  obtain ⟨k, rfl, hkl, hkt, hrn, hrm⟩ := find_lt HFD.out.symm HKK.out.symm
  rw [HN.out] at hkl
  have HRN := Lib.hid hrn
  clear hrn
  have HV : Hid (R = if (Vw.updOf who d r).2 ≠ 0 then ([], (Vw.updOf who d r).2) else (l.set k (Vw.updOf who d r).1, 0)) := Lib.hid (by rw [HU.out, if_neg (by simp), if_neg (by simp), hkt])
  clear HU hkt
  cases hq : Qm.eqB who r.author
  · have hj : (who.toList == r.author.toList) = false := hq
    have hus : Vw.updOf who d r = (r, 21) := by unfold Vw.updOf; rw [if_pos hq]
    have hv : R = ([], 21) := by rw [HV.out, hus, if_pos (show (21 : Int) ≠ 0 by decide)]
    clear HV hq hus
    subst hv
    obtain ⟨hc0, hf0, hl0⟩ := HBX.out.all
    go_wp2_with fail
    have HX1 := Lib.hid (HX2.out.trans HYA.out)
    go_ret2
    exact ⟨none, 0, 0, rfl, Revs.nil _, HX1.out⟩
  have hj : (who.toList == r.author.toList) = true := hq
  have hus : Vw.updOf who d r = ({ r with ids := d, state := 1 }, Vw.ids d) := by unfold Vw.updOf; rw [if_neg (by rw [hq]; decide)]
  have HV2 : Hid (R = if Vw.ids d ≠ 0 then ([], Vw.ids d) else (l.set k { r with ids := d, state := 1 }, 0)) := Lib.hid (by rw [HV.out, hus])
  clear HV hq hus
  generalize hE : Vw.ids d = E at HV2 HI
  have HB2 := HBX
  obtain ⟨hc0, hf0, hl0⟩ := HBX.out.all
  go_wp2_with fail
  refine (HI.out _ (HX2.out.trans HYA.out)).mono ?_
  rintro e w3 ⟨rfl, hx0⟩
  have HY3 := Lib.hid (HYA.out.trans hx0)
  have HB3 := Lib.hid (HBX.out.ext hx0)
  clear hx0 HI hc0 hf0 hl0
  obtain ⟨hc0, hf0, hl0⟩ := HB3.out.all
  by_cases h0 : E = 0
  rotate_left
  · have hk0 : (E == 0) = false := by simpa using h0
    have hv : R = ([], E) := by rw [HV2.out, if_pos h0]
    clear HV2
    subst hv
    go_wp2_with fail
    have HX1 := Lib.hid (HX2.out.trans HY3.out)
    go_ret2
    exact ⟨none, 0, 0, rfl, Revs.nil _, HX1.out⟩
  subst h0
  have hv : R = (l.set k { r with ids := d, state := 1 }, 0) := by rw [HV2.out, if_neg (by simp)]
  clear HV2 hE
  subst hv
  go_wp2_with fail
  have hyx := (Ext.setCell (p := ⟨w2.heap.size, 4, none⟩) (Ext.setCell (p := ⟨w2.heap.size, 3, none⟩) HY3.out (Nat.le_refl _) (.slice B p q)) (Nat.le_refl _) (.int .i64 1))
  have HYX := Lib.hid hyx
  clear hyx
  have HNR : Hid (∀ W, Ext w2 W → Rev W All [.int .i64 r.number, .string r.author, .string r.branch, .slice B p q, .int .i64 1, .slice B' p' q'] { r with ids := d, state := 1 }) := Lib.hid fun W hW => ⟨B, p, q, B', p', q', rfl, ⟨HP.out, HPQ.out, Ds.ext HD.out (HX2.out.trans hW)⟩, HP'.out, HQ'.out, Vs.ext HVS.out hW⟩
  refine (HW.out _ k [.int .i64 r.number, .string r.author, .string r.branch, .slice B p q, .int .i64 1, .slice B' p' q'] { r with ids := d, state := 1 } (HX2.out.trans HYX.out) (HNR.out _ HYX.out) HRN.out hkl).mono ?_
  rintro e w9 ⟨A9, n9, c9, rfl, hrv, hx9⟩
  have HRV := Lib.hid hrv
  have HX9 := Lib.hid ((HX2.out.trans HYX.out).trans hx9)
  clear hrv hx9
  go_wp2_with fail
  go_ret2
  exact ⟨_, _, _, rfl, HRV.out, HX9.out⟩
set_option maxHeartbeats 16000000 in
set_option maxRecDepth 100000 in
/-- quiltref55.Close. -/
theorem rclose_any (A : Option Addr) (n c : Nat) (number : Int) (who : ByteArray) (en : Int) (l : List Rv) (w : World) (hg : Glob w) (h : Rs w All A l) (hn : l.length = n) (hb : n ≤ 1000000000) (hf : ∀ r ∈ l, r.Fits) :
    Calls Tryz.prog 55 #[.slice A n c, .int .i64 number, .string who, .int .i64 en] w (GivesR w (Vw.close l number who en)) := by
  have HC : Hid (∀ W, Ext w W → Calls Tryz.prog 15 #[.slice A n c] W (Ret (.int .i64 (Vw.check l)) W)) := Lib.hid fun W hW => rcheck_any A n c l W (hg.ext hW) (Rs.ext h hW) hn hb hf
  have HFI : Hid (∀ W, Ext w W → Calls Tryz.prog 80 #[.slice A n c, .int .i64 number] W (GivesF W (Vw.find l number))) := Lib.hid fun W hW => find_any A n c number l W (Rs.ext h hW) hn hb
  have HW : Hid (∀ (W : World) (k : Nat) (cs : List Value) (r : Rv), Ext w W → Rev W All cs r → r.number = (k : Int) + 1 → k < n → Calls Tryz.prog 81 #[.slice A n c, .agg cs.toArray] W (fun e w' => ∃ A' n' c', e = .returned (.slice A' n' c') ∧ Revs w' A' n' c' (l.set k r) ∧ Ext W w')) := Lib.hid fun W k cs r hW hr hk hkn => with_any A n c cs l r k W (Rs.ext h hW) hn hb hr hk hkn
  have HN := Lib.hid hn
  have HU := Lib.hid (Vw.close_eq l number who en)
  rw [changed_find] at HU
  generalize Vw.close l number who en = R at HU ⊢
  obtain ⟨KK, hKK⟩ : ∃ K, K = Vw.check l := ⟨_, rfl⟩
  rw [← hKK] at HU HC
  have HKK := Lib.hid hKK
  obtain ⟨Fd, hFd⟩ : ∃ F, F = Vw.find l number := ⟨_, rfl⟩
  rw [← hFd] at HU HFI
  have HFD := Lib.hid hFd
  clear h hn hf hg hKK hFd
  go_enter Tryz.func55, Tryz.ntmps55
  have hx := Ext.refl w
  go_wp2_with fail
  refine (HC.out _ hx).mono ?_
  rintro e w1 ⟨rfl, hx0⟩
  have HX1 := Lib.hid ((hx).trans hx0)
  clear hx hx0 HC
  by_cases h0 : KK = 0
  rotate_left
  · have hk0 : (KK == 0) = false := by simpa using h0
    have hv : R = ([], KK) := by rw [HU.out, if_pos h0]
    clear HU h0
    subst hv
    go_wp2_with fail
    go_ret2
    exact ⟨none, 0, 0, rfl, Revs.nil _, HX1.out⟩
  subst h0
  by_cases hen : en = 4 ∨ en = 5
  rotate_left
  · have k4 : (en != 4) = true := by simp; omega
    have k5 : (en != 5) = true := by simp; omega
    have hv : R = ([], 8) := by rw [HU.out, if_neg (by simp), if_pos (by omega)]
    clear HU hen
    subst hv
    go_wp2_with fail
    go_ret2
    exact ⟨none, 0, 0, rfl, Revs.nil _, HX1.out⟩
  have HU2 := Lib.hid (HU.out.trans (by rw [if_neg (by simp), if_neg (by omega)]))
  clear HU
  rcases hen with hen | hen
  · subst hen
    go_wp2_with fail
    refine (HFI.out _ HX1.out).mono ?_
    rintro e w2 ⟨cs, rfl, hrf, hx0⟩
    obtain ⟨r, fe⟩ := Fd
    have HX2 := Lib.hid (HX1.out.trans hx0)
    have HRE := Lib.hid hrf
    obtain ⟨A', n', m', B', p', q', rfl, ⟨hn', hm', hids⟩, hp', hpq', hvs⟩ := hrf
    have HYA := Lib.hid ((Ext.refl w2).alloc (.cells #[.int .i64 r.number, .string r.author, .string r.branch, .slice A' n' m', .int .i64 r.state, .slice B' p' q'] 28))
    have HIDS := Lib.hid hids
    have HVS := Lib.hid hvs
    have HN' := Lib.hid hn'
    have HM' := Lib.hid hm'
    have HP' := Lib.hid hp'
    have HQ' := Lib.hid hpq'
    have HBX := Lib.hid (Blk.new' (w := w2) (g := w2.heap.size) (cs := #[.int .i64 r.number, .string r.author, .string r.branch, .slice A' n' m', .int .i64 r.state, .slice B' p' q']) (t := 28) rfl)
    clear hx0 HFI hids hvs hn' hm' hp' hpq'
    dsimp only at HRE HVS HIDS HN' HP' ⊢
    by_cases h0 : fe = 0
    rotate_left
    · have hk0 : (fe == 0) = false := by simpa using h0
      have hv : R = ([], fe) := by rw [HU2.out, if_pos h0]
      clear HU2 h0
      subst hv
      go_wp2_with fail
      have HX1 := Lib.hid (HX2.out.trans HYA.out)
      go_ret2
      exact ⟨none, 0, 0, rfl, Revs.nil _, HX1.out⟩
    subst h0
    obtain ⟨k, rfl, hkl, hkt, hrn, hrm⟩ := find_lt HFD.out.symm HKK.out.symm
    rw [HN.out] at hkl
    have HRN := Lib.hid hrn
    clear hrn
    have HV : Hid (R = if (Vw.cloOf who 4 r).2 ≠ 0 then ([], (Vw.cloOf who 4 r).2) else (l.set k (Vw.cloOf who 4 r).1, 0)) := Lib.hid (by rw [HU2.out, if_neg (by simp), hkt])
    clear HU2 hkt
    obtain ⟨hc0, hf0, hl0⟩ := HBX.out.all
    by_cases h2 : r.state = 2
    rotate_left
    · have k2 : (r.state != 2) = true := by simp; exact h2
      have hus : Vw.cloOf who 4 r = (r, 16) := by unfold Vw.cloOf; rw [if_pos ⟨rfl, h2⟩]
      have hv : R = ([], 16) := by rw [HV.out, hus, if_pos (show (16 : Int) ≠ 0 by decide)]
      clear HV hus h2
      subst hv
      go_wp2_with fail
      have HX1 := Lib.hid (HX2.out.trans HYA.out)
      go_ret2
      exact ⟨none, 0, 0, rfl, Revs.nil _, HX1.out⟩
    have hus : Vw.cloOf who 4 r = ({ r with state := 4 }, 0) := by unfold Vw.cloOf; rw [if_neg (by rw [h2]; simp), if_neg (by simp)]
    have hv : R = (l.set k { r with state := 4 }, 0) := by rw [HV.out, hus, if_neg (by simp)]
    have k2 : (r.state != 2) = false := by rw [h2]; rfl
    clear HV hus h2
    subst hv
    go_wp2_with fail
    have HYX := Lib.hid ((Ext.refl w2).alloc (.cells #[.int .i64 r.number, .string r.author, .string r.branch, .slice A' n' m', .int .i64 4, .slice B' p' q'] 28))
    have HNR : Hid (∀ W, Ext w2 W → Rev W All [.int .i64 r.number, .string r.author, .string r.branch, .slice A' n' m', .int .i64 4, .slice B' p' q'] { r with state := 4 }) := Lib.hid fun W hW => ⟨A', n', m', B', p', q', rfl, ⟨HN'.out, HM'.out, Ds.ext HIDS.out hW⟩, HP'.out, HQ'.out, Vs.ext HVS.out hW⟩
    refine (HW.out _ k [.int .i64 r.number, .string r.author, .string r.branch, .slice A' n' m', .int .i64 4, .slice B' p' q'] { r with state := 4 } (HX2.out.trans HYX.out) (HNR.out _ HYX.out) HRN.out hkl).mono ?_
    rintro e w9 ⟨A9, n9, c9, rfl, hrv, hx9⟩
    have HRV := Lib.hid hrv
    have HX9 := Lib.hid ((HX2.out.trans HYX.out).trans hx9)
    clear hrv hx9
    go_wp2_with fail
    go_ret2
    exact ⟨_, _, _, rfl, HRV.out, HX9.out⟩
  · subst hen
    go_wp2_with fail
    refine (HFI.out _ HX1.out).mono ?_
    rintro e w2 ⟨cs, rfl, hrf, hx0⟩
    obtain ⟨r, fe⟩ := Fd
    have HX2 := Lib.hid (HX1.out.trans hx0)
    have HRE := Lib.hid hrf
    obtain ⟨A', n', m', B', p', q', rfl, ⟨hn', hm', hids⟩, hp', hpq', hvs⟩ := hrf
    have HYA := Lib.hid ((Ext.refl w2).alloc (.cells #[.int .i64 r.number, .string r.author, .string r.branch, .slice A' n' m', .int .i64 r.state, .slice B' p' q'] 28))
    have HIDS := Lib.hid hids
    have HVS := Lib.hid hvs
    have HN' := Lib.hid hn'
    have HM' := Lib.hid hm'
    have HP' := Lib.hid hp'
    have HQ' := Lib.hid hpq'
    have HBX := Lib.hid (Blk.new' (w := w2) (g := w2.heap.size) (cs := #[.int .i64 r.number, .string r.author, .string r.branch, .slice A' n' m', .int .i64 r.state, .slice B' p' q']) (t := 28) rfl)
    clear hx0 HFI hids hvs hn' hm' hp' hpq'
    dsimp only at HRE HVS HIDS HN' HP' ⊢
    by_cases h0 : fe = 0
    rotate_left
    · have hk0 : (fe == 0) = false := by simpa using h0
      have hv : R = ([], fe) := by rw [HU2.out, if_pos h0]
      clear HU2 h0
      subst hv
      go_wp2_with fail
      have HX1 := Lib.hid (HX2.out.trans HYA.out)
      go_ret2
      exact ⟨none, 0, 0, rfl, Revs.nil _, HX1.out⟩
    subst h0
    obtain ⟨k, rfl, hkl, hkt, hrn, hrm⟩ := find_lt HFD.out.symm HKK.out.symm
    rw [HN.out] at hkl
    have HRN := Lib.hid hrn
    clear hrn
    have HV : Hid (R = if (Vw.cloOf who 5 r).2 ≠ 0 then ([], (Vw.cloOf who 5 r).2) else (l.set k (Vw.cloOf who 5 r).1, 0)) := Lib.hid (by rw [HU2.out, if_neg (by simp), hkt])
    clear HU2 hkt
    obtain ⟨hc0, hf0, hl0⟩ := HBX.out.all
    cases hq : Qm.eqB who r.author
    · have hj : (who.toList == r.author.toList) = false := hq
      have hus : Vw.cloOf who 5 r = (r, 21) := by unfold Vw.cloOf; rw [if_neg (by simp), if_pos ⟨rfl, hq⟩]
      have hv : R = ([], 21) := by rw [HV.out, hus, if_pos (show (21 : Int) ≠ 0 by decide)]
      clear HV hus hq
      subst hv
      go_wp2_with fail
      have HX1 := Lib.hid (HX2.out.trans HYA.out)
      go_ret2
      exact ⟨none, 0, 0, rfl, Revs.nil _, HX1.out⟩
    have hj : (who.toList == r.author.toList) = true := hq
    have hus : Vw.cloOf who 5 r = ({ r with state := 5 }, 0) := by unfold Vw.cloOf; rw [if_neg (by simp), if_neg (by simp [hq])]
    have hv : R = (l.set k { r with state := 5 }, 0) := by rw [HV.out, hus, if_neg (by simp)]
    clear HV hus hq
    subst hv
    go_wp2_with fail
    have HYX := Lib.hid ((Ext.refl w2).alloc (.cells #[.int .i64 r.number, .string r.author, .string r.branch, .slice A' n' m', .int .i64 5, .slice B' p' q'] 28))
    have HNR : Hid (∀ W, Ext w2 W → Rev W All [.int .i64 r.number, .string r.author, .string r.branch, .slice A' n' m', .int .i64 5, .slice B' p' q'] { r with state := 5 }) := Lib.hid fun W hW => ⟨A', n', m', B', p', q', rfl, ⟨HN'.out, HM'.out, Ds.ext HIDS.out hW⟩, HP'.out, HQ'.out, Vs.ext HVS.out hW⟩
    refine (HW.out _ k [.int .i64 r.number, .string r.author, .string r.branch, .slice A' n' m', .int .i64 5, .slice B' p' q'] { r with state := 5 } (HX2.out.trans HYX.out) (HNR.out _ HYX.out) HRN.out hkl).mono ?_
    rintro e w9 ⟨A9, n9, c9, rfl, hrv, hx9⟩
    have HRV := Lib.hid hrv
    have HX9 := Lib.hid ((HX2.out.trans HYX.out).trans hx9)
    clear hrv hx9
    go_wp2_with fail
    go_ret2
    exact ⟨_, _, _, rfl, HRV.out, HX9.out⟩
set_option maxHeartbeats 16000000 in
set_option maxRecDepth 100000 in
/-- quiltref55.Vote. -/
theorem rvote55_any (A : Option Addr) (n c : Nat) (number : Int) (v : Vt) (need : Int) (X : Option Addr) (p q : Nat) (l : List Rv) (w : World) (hg : Glob w) (h : Rs w All A l) (hn : l.length = n) (hb : n ≤ 1000000000) (hf : ∀ r ∈ l, r.Fits) (hd : Ds w All X v.ids) (hp : v.ids.length = p) (hpq : p ≤ q) (hvf : v.Fits) :
    Calls Tryz.prog 54 #[.slice A n c, .int .i64 number, .agg #[.string v.who, .int .i64 v.kind, .string v.text, .slice X p q], .int .i64 need] w (GivesR w (Vw.addVote l number v need)) := by
  have HC : Hid (∀ W, Ext w W → Calls Tryz.prog 15 #[.slice A n c] W (Ret (.int .i64 (Vw.check l)) W)) := Lib.hid fun W hW => rcheck_any A n c l W (hg.ext hW) (Rs.ext h hW) hn hb hf
  have HFI : Hid (∀ W, Ext w W → Calls Tryz.prog 80 #[.slice A n c, .int .i64 number] W (GivesF W (Vw.find l number))) := Lib.hid fun W hW => find_any A n c number l W (Rs.ext h hW) hn hb
  have HW : Hid (∀ (W : World) (k : Nat) (cs : List Value) (r : Rv), Ext w W → Rev W All cs r → r.number = (k : Int) + 1 → k < n → Calls Tryz.prog 81 #[.slice A n c, .agg cs.toArray] W (fun e w' => ∃ A' n' c', e = .returned (.slice A' n' c') ∧ Revs w' A' n' c' (l.set k r) ∧ Ext W w')) := Lib.hid fun W k cs r hW hr hk hkn => with_any A n c cs l r k W (Rs.ext h hW) hn hb hr hk hkn
  have HVT : Hid (Vot w All [.string v.who, .int .i64 v.kind, .string v.text, .slice X p q] v) := Lib.hid ⟨X, p, q, rfl, hp, hpq, hd⟩
  have HCV : Hid (∀ W, Ext w W → Calls Tryz.prog 77 #[.agg #[.string v.who, .int .i64 v.kind, .string v.text, .slice X p q]] W (Ret (.int .i64 (Vw.vote v)) W)) := Lib.hid fun W hW => rvote_any [.string v.who, .int .i64 v.kind, .string v.text, .slice X p q] v W (hg.ext hW) (Vot.steadfast.ext HVT.out hW) hvf
  have HD := Lib.hid hd
  have HP := Lib.hid hp
  have HVF := Lib.hid hvf
  have HFF := Lib.hid hf
  have hpb : p ≤ 1000000000 := by rw [← hp]; exact hvf.ids
  have HN := Lib.hid hn
  have HU := Lib.hid (Vw.addVote_eq l number v need)
  rw [changed_find] at HU
  generalize Vw.addVote l number v need = R at HU ⊢
  obtain ⟨KK, hKK⟩ : ∃ K, K = Vw.check l := ⟨_, rfl⟩
  rw [← hKK] at HU HC
  have HKK := Lib.hid hKK
  obtain ⟨Fd, hFd⟩ : ∃ F, F = Vw.find l number := ⟨_, rfl⟩
  rw [← hFd] at HU HFI
  have HFD := Lib.hid hFd
  clear h hn hf hg hd hp hpq hvf hKK hFd
  go_enter Tryz.func54, Tryz.ntmps54
  have hx := Ext.refl w
  go_wp2_with fail
  refine (HC.out _ (hx.alloc _)).mono ?_
  rintro e w1 ⟨rfl, hx0⟩
  have HBV := Lib.hid (Blk.ext hx0 (Blk.new' (w := w) (g := w.heap.size) (cs := #[.string v.who, .int .i64 v.kind, .string v.text, .slice X p q]) (t := 39) rfl))
  have HX1 := Lib.hid (((hx.alloc _)).trans hx0)
  clear hx hx0 HC
  by_cases h0 : KK = 0
  rotate_left
  · have hk0 : (KK == 0) = false := by simpa using h0
    have hv : R = ([], KK) := by rw [HU.out, if_pos h0]
    clear HU h0
    subst hv
    go_wp2_with fail
    go_ret2
    exact ⟨none, 0, 0, rfl, Revs.nil _, HX1.out⟩
  subst h0
  by_cases hnd : need < 0
  · have k1 : decide (need < 0) = true := decide_eq_true hnd
    have hv : R = ([], 2) := by rw [HU.out, if_neg (by simp), if_pos hnd]
    clear HU
    subst hv
    go_wp2_with fail
    go_ret2
    exact ⟨none, 0, 0, rfl, Revs.nil _, HX1.out⟩
  have k1 : decide (need < 0) = false := decide_eq_false hnd
  have HU2 := Lib.hid (HU.out.trans (by rw [if_neg (by simp), if_neg hnd]))
  clear HU hnd
  go_wp2_with fail
  refine (HFI.out _ HX1.out).mono ?_
  rintro e w2 ⟨cs, rfl, hrf, hx0⟩
  obtain ⟨r, fe⟩ := Fd
  have HX2 := Lib.hid (HX1.out.trans hx0)
  have HRE := Lib.hid hrf
  obtain ⟨A', n', m', B', p', q', rfl, ⟨hn', hm', hids⟩, hp', hpq', hvs⟩ := hrf
  have HYA := Lib.hid ((Ext.refl w2).alloc (.cells #[.int .i64 r.number, .string r.author, .string r.branch, .slice A' n' m', .int .i64 r.state, .slice B' p' q'] 28))
  have HIDS := Lib.hid hids
  have HVS := Lib.hid hvs
  have HN' := Lib.hid hn'
  have HM' := Lib.hid hm'
  have HP' := Lib.hid hp'
  have HQ' := Lib.hid hpq'
  have HBX := Lib.hid (Blk.new' (w := w2) (g := w2.heap.size) (cs := #[.int .i64 r.number, .string r.author, .string r.branch, .slice A' n' m', .int .i64 r.state, .slice B' p' q']) (t := 28) rfl)
  have HBV2 := Lib.hid ((HBV.out.ext hx0).alloc (.cells #[.int .i64 r.number, .string r.author, .string r.branch, .slice A' n' m', .int .i64 r.state, .slice B' p' q'] 28))
  have hgv : w.heap.size < w2.heap.size := (HBV.out.ext hx0).lt
  clear hx0 HFI hids hvs hn' hm' hp' hpq'
  dsimp only at HRE HVS HIDS HN' HP' ⊢
  by_cases h0 : fe = 0
  rotate_left
  · have hk0 : (fe == 0) = false := by simpa using h0
    have hv : R = ([], fe) := by rw [HU2.out, if_pos h0]
    clear HU2 h0
    subst hv
    go_wp2_with fail
    have HX1 := Lib.hid (HX2.out.trans HYA.out)
    go_ret2
    exact ⟨none, 0, 0, rfl, Revs.nil _, HX1.out⟩
  subst h0
  obtain ⟨k, rfl, hkl, hkt, hrn, hrm⟩ := find_lt HFD.out.symm HKK.out.symm
  rw [HN.out] at hkl
  have HRN := Lib.hid hrn
  clear hrn
  have HV : Hid (R = if (Vw.votOf v need r).2 ≠ 0 then ([], (Vw.votOf v need r).2) else (l.set k (Vw.votOf v need r).1, 0)) := Lib.hid (by rw [HU2.out, if_neg (by simp), hkt])
  clear HU2 hkt HBV
  have HVO : Hid (Vw.votOf v need r = if Vw.vote v ≠ 0 then (r, Vw.vote v) else if v.ids ≠ r.ids then (r, 10) else if r.votes.length = 100 then (r, 4) else (Vw.voted v need r, 0)) := Lib.hid rfl
  generalize Vw.votOf v need r = VO at HV HVO
  generalize hE : Vw.vote v = E at HVO HCV
  clear hE
  have hv100 : p' ≤ 100 := by have := ((check_fits HKK.out.symm).2 r hrm).2; rw [HP'.out] at this; exact this
  have hrf := HFF.out r hrm
  have hnb : n' ≤ 1000000000 := by rw [← HN'.out]; exact hrf.ids
  have HRF := Lib.hid hrf
  clear hrf hrm
  obtain ⟨hcv, hfv, hlv⟩ := HBV2.out.all
  go_wp2_with fail
  refine (HCV.out _ (HX2.out.trans HYA.out)).mono ?_
  rintro e w3 ⟨rfl, hx0⟩
  have HY3 := Lib.hid (HYA.out.trans hx0)
  have HB3 := Lib.hid (HBX.out.ext hx0)
  have HBV3 := Lib.hid (HBV2.out.ext hx0)
  clear hx0 HCV hcv hfv hlv HBX HBV2
  by_cases h0 : E = 0
  rotate_left
  · have hk0 : (E == 0) = false := by simpa using h0
    have hVO : VO = (r, E) := by rw [HVO.out, if_pos h0]
    have hv : R = ([], E) := by rw [HV.out, hVO]; exact if_pos h0
    clear HV HVO hVO
    subst hv
    go_wp2_with fail
    have HX1 := Lib.hid (HX2.out.trans HY3.out)
    go_ret2
    exact ⟨none, 0, 0, rfl, Revs.nil _, HX1.out⟩
  subst h0
  obtain ⟨s, hs⟩ : ∃ s, s = decide (v.ids = r.ids) := ⟨_, rfl⟩
  have HEQ : Hid (∀ W, Ext w2 W → Calls Tryz.prog 35 #[.slice X p q, .slice A' n' m'] W (Ret (.bool s) W)) := Lib.hid fun W hW => by rw [hs]; exact dsame_any X A' p q n' m' v.ids r.ids W (Ds.ext HD.out (HX2.out.trans hW)) (Ds.ext HIDS.out hW) HP.out HN'.out hpb hnb
  have HSE := Lib.hid hs
  clear hs
  obtain ⟨hcv, hfv, hlv⟩ := HBV3.out.all
  obtain ⟨hc0, hf0, hl0⟩ := HB3.out.all
  go_wp2_with fail
  refine (HEQ.out _ HY3.out).mono ?_
  rintro e w4 ⟨rfl, hx0⟩
  have HY4 := Lib.hid (HY3.out.trans hx0)
  have HB4 := Lib.hid (HB3.out.ext hx0)
  have HBV4 := Lib.hid (HBV3.out.ext hx0)
  clear hx0 HEQ hcv hfv hlv hc0 hf0 hl0 HY3 HB3 HBV3
  cases s
  · have hVO : VO = (r, 10) := by rw [HVO.out, if_neg (by simp), if_pos (by have := HSE.out; simpa using this.symm)]
    have hv : R = ([], 10) := by rw [HV.out, hVO, if_pos (show (10 : Int) ≠ 0 by decide)]
    clear hVO
    clear HV HVO
    subst hv
    go_wp2_with fail
    have HX1 := Lib.hid (HX2.out.trans HY4.out)
    go_ret2
    exact ⟨none, 0, 0, rfl, Revs.nil _, HX1.out⟩
  have hve : v.ids = r.ids := by have := HSE.out; simpa using this.symm
  obtain ⟨hc0, hf0, hl0⟩ := HB4.out.all
  by_cases h100 : p' = 100
  · have hVO : VO = (r, 4) := by rw [HVO.out, if_neg (by simp), if_neg (by simp [hve]), if_pos (by rw [HP'.out]; exact h100)]
    have hv : R = ([], 4) := by rw [HV.out, hVO, if_pos (show (4 : Int) ≠ 0 by decide)]
    clear hVO
    clear HV HVO
    subst hv
    subst h100
    go_wp2_with fail
    have HX1 := Lib.hid (HX2.out.trans HY4.out)
    go_ret2
    exact ⟨none, 0, 0, rfl, Revs.nil _, HX1.out⟩
  have hk1 : decide (100 ≤ (p' : Int)) = false := decide_eq_false (by omega)
  have hVO : VO = (Vw.voted v need r, 0) := by rw [HVO.out, if_neg (by simp), if_neg (by simp [hve]), if_neg (by rw [HP'.out]; exact h100)]
  have hv : R = (l.set k (Vw.voted v need r), 0) := by rw [HV.out, hVO, if_neg (by simp)]
  clear HV HVO hve HSE hVO
  subst hv
  obtain ⟨i0, z0, hi0, hz0, hs0, hby0, hzk0⟩ := vinfo
  have HI0 := Lib.hid hi0
  have HZ0 := Lib.hid hz0
  clear hi0 hz0
  have HVT2 := Lib.hid (Vot.steadfast.ext HVT.out HX2.out)
  go_upto_region 16 with fail
  clear hc0 hf0 hl0 hk1 HVT
  go_cut [] (fun wx => ∃ gg cap base : Nat, Hid (Blk wx w2.heap.size 28 #[.int .i64 r.number, .string r.author, .string r.branch, .slice A' n' m', .int .i64 r.state, .slice (some ⟨gg, 0, none⟩) (p' + 1) cap]) ∧ Hid (OwnW 4 Vot 39 w2 wx base All (.slice (some ⟨gg, 0, none⟩) (p' + 1) cap) (r.votes ++ [v])) ∧ Hid (Ext w2 wx) ∧ w2.heap.size < base)
  case first =>
    refine wp_region_noPanic (wp_region_held_drew (S := fun w' => Ext w2 w' ∧ Blk w' w.heap.size 39 #[.string v.who, .int .i64 v.kind, .string v.text, .slice X p q]) (by kernel_rfl) ⟨HY4.out.drew1, HBV4.out.drew⟩ (fun hv => ?_))
    have HB := Lib.hid HB4.out.drew
    generalize w4.drew = v0 at hv HB ⊢
    refine take_any (i := 1) (v := .pointer (some ⟨w2.heap.size, 5, none⟩)) rfl rfl (by kernel_rfl) (by kernel_rfl) (by kernel_rfl) (.inl ⟨(by kernel_rfl), fun W' hW' => ?fb⟩) hv ?_
    case fb => go_simp
    try simp only [Act.put, sA, s0, sS]
    refine tl (i := 4) [.string v.who, .int .i64 v.kind, .string v.text, .slice X p q] rfl rfl rfl rfl rfl Tryz.underlying39 rfl (fun _ h => h.2.range 0 _ (fun j _ => by simp)) hv ?_
    try simp only [Act.put, sA, s0, sS]
    have hi0 := HI0.out
    have hz0 := HZ0.out
    refine wpAnyH_ready (rs := [0, 2, 5]) (by kernel_rfl) (by simp) ?_
    refine (AllReadyH.cons rfl (fun K hK => ?_) (AllReadyH.cons rfl (fun K hK => ?_) (AllReadyH.cons rfl (fun K hK => ?_) AllReadyH.nil)))
    · go_simp
      refine hK.out _ _ (⟨hv.1.alloc _, hv.2.alloc _⟩) (fun _ => ?_)
      clear hK
      try simp only [Act.put, sA, s0, sS]
      have hx0 : Ext v0 (v0.alloc (.cells #[] 39)) := (Ext.refl v0).alloc _
      have hown := OwnW.lit 4 Vot 39 w2 v0
      have hgb0 : w2.heap.size < v0.heap.size := HB.out.lt
      have hbs : v0.heap.size ≤ (v0.alloc (.cells #[] 39)).heap.size := hx0.size_le
      have hv2 : Ext w2 (v0.alloc (.cells #[] 39)) ∧ Blk (v0.alloc (.cells #[] 39)) w.heap.size 39 #[.string v.who, .int .i64 v.kind, .string v.text, .slice X p q] := ⟨hv.1.alloc _, hv.2.alloc _⟩
      generalize v0.alloc (.cells #[] 39) = ve at hx0 hown hbs hv2 ⊢
      generalize v0.heap.size = g0 at hown hgb0 hbs ⊢
      have HE := Lib.hid hown
      have HB := Lib.hid (HB.out.ext hx0)
      have hv := hv2
      clear hv2 hx0 hown
      refine wpAnyH_ready (rs := [2, 5]) (by kernel_rfl) (by simp) ?_
      refine (AllReadyH.cons rfl (fun K hK => ?_) (AllReadyH.cons rfl (fun K hK => ?_) AllReadyH.nil))
      · have hc0 := HB.out.cell
        go_simp
        refine hK.out _ _ (hv) (fun _ => ?_)
        clear hK
        try simp only [Act.put, sA, s0, sS]
        clear hc0
        refine wpAnyH_ready (rs := [3, 5]) (by kernel_rfl) (by simp) ?_
        refine (AllReadyH.cons rfl (fun K hK => ?_) (AllReadyH.cons rfl (fun K hK => ?_) AllReadyH.nil))
        · rw [if_pos (show _ = true by kernel_rfl)]
          refine wp_append_sls (R := Vot) (fun h => Vot.one h) w2 ve hv.1 _ _ 26 39 i0 z0 rfl Tryz.underlying26 hi0 hz0 hs0 hby0 hzk0 (by decide) g0 _ [] rfl HE.out B' p' q' r.votes rfl HVS.out HP'.out (by unfold maxLen; simp; omega) (by simp; omega) hbs ?_
          intro v1 va hown3 hgrow
          rw [List.nil_append] at hown3
          have hv2 : Ext w2 va ∧ Blk va w.heap.size 39 #[.string v.who, .int .i64 v.kind, .string v.text, .slice X p q] := ⟨Below.grown hv.1 hgrow hv.1.size_le (fun j e => by have e2 : g0 = j := Option.some.inj e; omega), hv.2.grown hgrow (fun e => by have e2 : g0 = w.heap.size := Option.some.inj e; omega)⟩
          refine hK.out _ _ (hv2) (fun _ => ?_)
          clear hK
          try simp only [Act.put, sA, s0, sS]
          have hbs := Nat.le_trans hbs hgrow.size
          have HB := Lib.hid (HB.out.grown hgrow (fun e => by have e2 : g0 = w2.heap.size := Option.some.inj e; omega))
          have HO := Lib.hid hown3
          have hv := hv2
          clear hv2 hgrow hown3 HE
          refine wpAnyH_one (i := 5) (by kernel_rfl) rfl (by kernel_rfl) ?_
          go_simp
          refine ⟨⟨hv.1.alloc _, hv.2.alloc _⟩, ?_⟩
          try simp only [Act.put, sA, s0, sS]
          have hx0 : Ext va (va.alloc (.cells #[.string v.who, .int .i64 v.kind, .string v.text, .slice X p q] 39)) := (Ext.refl va).alloc _
          have hl : Blk (va.alloc (.cells #[.string v.who, .int .i64 v.kind, .string v.text, .slice X p q] 39)) va.heap.size 39 #[.string v.who, .int .i64 v.kind, .string v.text, .slice X p q] := Blk.new' rfl
          have hv2 : Ext w2 (va.alloc (.cells #[.string v.who, .int .i64 v.kind, .string v.text, .slice X p q] 39)) ∧ Blk (va.alloc (.cells #[.string v.who, .int .i64 v.kind, .string v.text, .slice X p q] 39)) w.heap.size 39 #[.string v.who, .int .i64 v.kind, .string v.text, .slice X p q] := ⟨hv.1.alloc _, hv.2.alloc _⟩
          generalize va.alloc (.cells #[.string v.who, .int .i64 v.kind, .string v.text, .slice X p q] 39) = vl at hx0 hl hv2 ⊢
          generalize va.heap.size = gl at hl ⊢
          have HL := Lib.hid hl
          have HB := Lib.hid (HB.out.ext hx0)
          have HO := Lib.hid (HO.out.ext hx0)
          have hbs := Nat.le_trans hbs hx0.size_le
          have hv := hv2
          clear hv2 hx0 hl
          refine wpAnyH_one (i := 6) (by kernel_rfl) rfl (by kernel_rfl) ?_
          refine wp_append_w (R := Vot) (fun h => Vot.one h) w2 vl _ _ 26 39 i0 z0 rfl Tryz.underlying26 hi0 hz0 hs0 hby0 hzk0 (by decide) g0 v1 r.votes rfl HO.out gl 1 [.string v.who, .int .i64 v.kind, .string v.text, .slice X p q] v rfl (HL.out.range 0 _ (fun j _ => by simp)) rfl HVT2.out (by have := HP'.out; unfold maxLen; omega) (by have := HP'.out; omega) hbs ?_
          intro gg cap v4 hown4 hgrow
          have hlt := HO.out.lt
          have hv2 : Ext w2 v4 ∧ Blk v4 w.heap.size 39 #[.string v.who, .int .i64 v.kind, .string v.text, .slice X p q] := ⟨Below.grown hv.1 hgrow hv.1.size_le (fun j e => by have := (hlt j e).1; omega), hv.2.grown hgrow (fun e => by have := (hlt _ e).1; omega)⟩
          have HB4 : Hid (Blk v4 w2.heap.size 28 #[.int .i64 r.number, .string r.author, .string r.branch, .slice A' n' m', .int .i64 r.state, .slice B' p' q']) := Lib.hid (HB.out.grown hgrow (fun e => by have := (hlt _ e).1; omega))
          have HO4 := Lib.hid hown4
          rw [HP'.out]
          refine ⟨hv2, ?_⟩
          try simp only [Act.put, sA, s0, sS]
          have hv := hv2
          clear hv2 hgrow hlt hown4
          refine take_any (i := 7) (v := .pointer (some ⟨w2.heap.size, 5, none⟩)) rfl rfl (by kernel_rfl) (by kernel_rfl) (by kernel_rfl) (.inl ⟨(by kernel_rfl), fun W' hW' => ?fa⟩) hv ?_
          case fa => go_simp
          try simp only [Act.put, sA, s0, sS]
          have hc4 := HB4.out.cell
          have hf4 := HB4.out.frozen
          refine wpAnyH_one (i := 8) (by kernel_rfl) rfl (by kernel_rfl) ?_
          go_simp
          refine ⟨⟨Ext.setCell (p := ⟨w2.heap.size, 5, none⟩) hv.1 (Nat.le_refl _) _, hv.2.far (p := ⟨w2.heap.size, 5, none⟩) (Nat.ne_of_lt hgv) _⟩, ?_⟩
          try simp only [Act.put, sA, s0, sS]
          clear hc4 hf4
          refine wpAnyH_done (by kernel_rfl) (NoPanic.normal ?_) _
          go_wp2_with fail
          go_meet
          have hb5 := HB4.out.set_ 5 (.slice (some ⟨gg, 0, none⟩) (p' + 1) cap)
          have hp1 : p' + 1 = r.votes.length + 1 := by rw [HP'.out]
          exact ⟨gg, cap, g0, Lib.hid hb5, Lib.hid (by rw [hp1]; exact HO4.out.far (p := ⟨w2.heap.size, 5, none⟩) (fun j e => by have := (HO4.out.lt j e).1; show j ≠ w2.heap.size; omega) _), Lib.hid (Ext.setCell (p := ⟨w2.heap.size, 5, none⟩) hv.1 (Nat.le_refl _) _), by omega⟩
        · go_simp
          refine hK.out _ _ (⟨hv.1.alloc _, hv.2.alloc _⟩) (fun _ => ?_)
          clear hK
          try simp only [Act.put, sA, s0, sS]
          have hx0 : Ext ve (ve.alloc (.cells #[.string v.who, .int .i64 v.kind, .string v.text, .slice X p q] 39)) := (Ext.refl ve).alloc _
          have hl : Blk (ve.alloc (.cells #[.string v.who, .int .i64 v.kind, .string v.text, .slice X p q] 39)) ve.heap.size 39 #[.string v.who, .int .i64 v.kind, .string v.text, .slice X p q] := Blk.new' rfl
          have hne0 : g0 ≠ ve.heap.size := Nat.ne_of_lt (HE.out.lt g0 rfl).2
          have hv2 : Ext w2 (ve.alloc (.cells #[.string v.who, .int .i64 v.kind, .string v.text, .slice X p q] 39)) ∧ Blk (ve.alloc (.cells #[.string v.who, .int .i64 v.kind, .string v.text, .slice X p q] 39)) w.heap.size 39 #[.string v.who, .int .i64 v.kind, .string v.text, .slice X p q] := ⟨hv.1.alloc _, hv.2.alloc _⟩
          generalize ve.alloc (.cells #[.string v.who, .int .i64 v.kind, .string v.text, .slice X p q] 39) = vl at hx0 hl hv2 ⊢
          generalize ve.heap.size = gl at hl hne0 ⊢
          have HL := Lib.hid hl
          have HB := Lib.hid (HB.out.ext hx0)
          have HE := Lib.hid (HE.out.ext hx0)
          have hbs := Nat.le_trans hbs hx0.size_le
          have hv := hv2
          clear hv2 hx0 hl
          refine wpAnyH_one (i := 3) (by kernel_rfl) rfl (by kernel_rfl) ?_
          refine wp_append_sls (R := Vot) (fun h => Vot.one h) w2 vl hv.1 _ _ 26 39 i0 z0 rfl Tryz.underlying26 hi0 hz0 hs0 hby0 hzk0 (by decide) g0 _ [] rfl HE.out B' p' q' r.votes rfl HVS.out HP'.out (by unfold maxLen; simp; omega) (by simp; omega) hbs ?_
          intro v1 va hown3 hgrow
          rw [List.nil_append] at hown3
          have hv2 : Ext w2 va ∧ Blk va w.heap.size 39 #[.string v.who, .int .i64 v.kind, .string v.text, .slice X p q] := ⟨Below.grown hv.1 hgrow hv.1.size_le (fun j e => by have e2 : g0 = j := Option.some.inj e; omega), hv.2.grown hgrow (fun e => by have e2 : g0 = w.heap.size := Option.some.inj e; omega)⟩
          refine ⟨hv2, ?_⟩
          try simp only [Act.put, sA, s0, sS]
          have hbs := Nat.le_trans hbs hgrow.size
          have HB := Lib.hid (HB.out.grown hgrow (fun e => by have e2 : g0 = w2.heap.size := Option.some.inj e; omega))
          have HL := Lib.hid (HL.out.grown hgrow (fun e => hne0 (Option.some.inj e)))
          have HO := Lib.hid hown3
          have hv := hv2
          clear hv2 hgrow hown3 HE
          refine wpAnyH_one (i := 6) (by kernel_rfl) rfl (by kernel_rfl) ?_
          refine wp_append_w (R := Vot) (fun h => Vot.one h) w2 va _ _ 26 39 i0 z0 rfl Tryz.underlying26 hi0 hz0 hs0 hby0 hzk0 (by decide) g0 v1 r.votes rfl HO.out gl 1 [.string v.who, .int .i64 v.kind, .string v.text, .slice X p q] v rfl (HL.out.range 0 _ (fun j _ => by simp)) rfl HVT2.out (by have := HP'.out; unfold maxLen; omega) (by have := HP'.out; omega) hbs ?_
          intro gg cap v4 hown4 hgrow
          have hlt := HO.out.lt
          have hv2 : Ext w2 v4 ∧ Blk v4 w.heap.size 39 #[.string v.who, .int .i64 v.kind, .string v.text, .slice X p q] := ⟨Below.grown hv.1 hgrow hv.1.size_le (fun j e => by have := (hlt j e).1; omega), hv.2.grown hgrow (fun e => by have := (hlt _ e).1; omega)⟩
          have HB4 : Hid (Blk v4 w2.heap.size 28 #[.int .i64 r.number, .string r.author, .string r.branch, .slice A' n' m', .int .i64 r.state, .slice B' p' q']) := Lib.hid (HB.out.grown hgrow (fun e => by have := (hlt _ e).1; omega))
          have HO4 := Lib.hid hown4
          rw [HP'.out]
          refine ⟨hv2, ?_⟩
          try simp only [Act.put, sA, s0, sS]
          have hv := hv2
          clear hv2 hgrow hlt hown4
          refine take_any (i := 7) (v := .pointer (some ⟨w2.heap.size, 5, none⟩)) rfl rfl (by kernel_rfl) (by kernel_rfl) (by kernel_rfl) (.inl ⟨(by kernel_rfl), fun W' hW' => ?fa⟩) hv ?_
          case fa => go_simp
          try simp only [Act.put, sA, s0, sS]
          have hc4 := HB4.out.cell
          have hf4 := HB4.out.frozen
          refine wpAnyH_one (i := 8) (by kernel_rfl) rfl (by kernel_rfl) ?_
          go_simp
          refine ⟨⟨Ext.setCell (p := ⟨w2.heap.size, 5, none⟩) hv.1 (Nat.le_refl _) _, hv.2.far (p := ⟨w2.heap.size, 5, none⟩) (Nat.ne_of_lt hgv) _⟩, ?_⟩
          try simp only [Act.put, sA, s0, sS]
          clear hc4 hf4
          refine wpAnyH_done (by kernel_rfl) (NoPanic.normal ?_) _
          go_wp2_with fail
          go_meet
          have hb5 := HB4.out.set_ 5 (.slice (some ⟨gg, 0, none⟩) (p' + 1) cap)
          have hp1 : p' + 1 = r.votes.length + 1 := by rw [HP'.out]
          exact ⟨gg, cap, g0, Lib.hid hb5, Lib.hid (by rw [hp1]; exact HO4.out.far (p := ⟨w2.heap.size, 5, none⟩) (fun j e => by have := (HO4.out.lt j e).1; show j ≠ w2.heap.size; omega) _), Lib.hid (Ext.setCell (p := ⟨w2.heap.size, 5, none⟩) hv.1 (Nat.le_refl _) _), by omega⟩
      · go_simp
        refine hK.out _ _ (⟨hv.1.alloc _, hv.2.alloc _⟩) (fun _ => ?_)
        clear hK
        try simp only [Act.put, sA, s0, sS]
        have hx0 : Ext ve (ve.alloc (.cells #[.string v.who, .int .i64 v.kind, .string v.text, .slice X p q] 39)) := (Ext.refl ve).alloc _
        have hl : Blk (ve.alloc (.cells #[.string v.who, .int .i64 v.kind, .string v.text, .slice X p q] 39)) ve.heap.size 39 #[.string v.who, .int .i64 v.kind, .string v.text, .slice X p q] := Blk.new' rfl
        have hne0 : g0 ≠ ve.heap.size := Nat.ne_of_lt (HE.out.lt g0 rfl).2
        have hv2 : Ext w2 (ve.alloc (.cells #[.string v.who, .int .i64 v.kind, .string v.text, .slice X p q] 39)) ∧ Blk (ve.alloc (.cells #[.string v.who, .int .i64 v.kind, .string v.text, .slice X p q] 39)) w.heap.size 39 #[.string v.who, .int .i64 v.kind, .string v.text, .slice X p q] := ⟨hv.1.alloc _, hv.2.alloc _⟩
        generalize ve.alloc (.cells #[.string v.who, .int .i64 v.kind, .string v.text, .slice X p q] 39) = vl at hx0 hl hv2 ⊢
        generalize ve.heap.size = gl at hl hne0 ⊢
        have HL := Lib.hid hl
        have HB := Lib.hid (HB.out.ext hx0)
        have HE := Lib.hid (HE.out.ext hx0)
        have hbs := Nat.le_trans hbs hx0.size_le
        have hv := hv2
        clear hv2 hx0 hl
        refine wpAnyH_one (i := 2) (by kernel_rfl) rfl (by kernel_rfl) ?_
        have hc0 := HB.out.cell
        go_simp
        (first | refine ⟨hv, ?_⟩ | skip)
        try simp only [Act.put, sA, s0, sS]
        clear hc0
        refine wpAnyH_one (i := 3) (by kernel_rfl) rfl (by kernel_rfl) ?_
        refine wp_append_sls (R := Vot) (fun h => Vot.one h) w2 vl hv.1 _ _ 26 39 i0 z0 rfl Tryz.underlying26 hi0 hz0 hs0 hby0 hzk0 (by decide) g0 _ [] rfl HE.out B' p' q' r.votes rfl HVS.out HP'.out (by unfold maxLen; simp; omega) (by simp; omega) hbs ?_
        intro v1 va hown3 hgrow
        rw [List.nil_append] at hown3
        have hv2 : Ext w2 va ∧ Blk va w.heap.size 39 #[.string v.who, .int .i64 v.kind, .string v.text, .slice X p q] := ⟨Below.grown hv.1 hgrow hv.1.size_le (fun j e => by have e2 : g0 = j := Option.some.inj e; omega), hv.2.grown hgrow (fun e => by have e2 : g0 = w.heap.size := Option.some.inj e; omega)⟩
        refine ⟨hv2, ?_⟩
        try simp only [Act.put, sA, s0, sS]
        have hbs := Nat.le_trans hbs hgrow.size
        have HB := Lib.hid (HB.out.grown hgrow (fun e => by have e2 : g0 = w2.heap.size := Option.some.inj e; omega))
        have HL := Lib.hid (HL.out.grown hgrow (fun e => hne0 (Option.some.inj e)))
        have HO := Lib.hid hown3
        have hv := hv2
        clear hv2 hgrow hown3 HE
        refine wpAnyH_one (i := 6) (by kernel_rfl) rfl (by kernel_rfl) ?_
        refine wp_append_w (R := Vot) (fun h => Vot.one h) w2 va _ _ 26 39 i0 z0 rfl Tryz.underlying26 hi0 hz0 hs0 hby0 hzk0 (by decide) g0 v1 r.votes rfl HO.out gl 1 [.string v.who, .int .i64 v.kind, .string v.text, .slice X p q] v rfl (HL.out.range 0 _ (fun j _ => by simp)) rfl HVT2.out (by have := HP'.out; unfold maxLen; omega) (by have := HP'.out; omega) hbs ?_
        intro gg cap v4 hown4 hgrow
        have hlt := HO.out.lt
        have hv2 : Ext w2 v4 ∧ Blk v4 w.heap.size 39 #[.string v.who, .int .i64 v.kind, .string v.text, .slice X p q] := ⟨Below.grown hv.1 hgrow hv.1.size_le (fun j e => by have := (hlt j e).1; omega), hv.2.grown hgrow (fun e => by have := (hlt _ e).1; omega)⟩
        have HB4 : Hid (Blk v4 w2.heap.size 28 #[.int .i64 r.number, .string r.author, .string r.branch, .slice A' n' m', .int .i64 r.state, .slice B' p' q']) := Lib.hid (HB.out.grown hgrow (fun e => by have := (hlt _ e).1; omega))
        have HO4 := Lib.hid hown4
        rw [HP'.out]
        refine ⟨hv2, ?_⟩
        try simp only [Act.put, sA, s0, sS]
        have hv := hv2
        clear hv2 hgrow hlt hown4
        refine take_any (i := 7) (v := .pointer (some ⟨w2.heap.size, 5, none⟩)) rfl rfl (by kernel_rfl) (by kernel_rfl) (by kernel_rfl) (.inl ⟨(by kernel_rfl), fun W' hW' => ?fa⟩) hv ?_
        case fa => go_simp
        try simp only [Act.put, sA, s0, sS]
        have hc4 := HB4.out.cell
        have hf4 := HB4.out.frozen
        refine wpAnyH_one (i := 8) (by kernel_rfl) rfl (by kernel_rfl) ?_
        go_simp
        refine ⟨⟨Ext.setCell (p := ⟨w2.heap.size, 5, none⟩) hv.1 (Nat.le_refl _) _, hv.2.far (p := ⟨w2.heap.size, 5, none⟩) (Nat.ne_of_lt hgv) _⟩, ?_⟩
        try simp only [Act.put, sA, s0, sS]
        clear hc4 hf4
        refine wpAnyH_done (by kernel_rfl) (NoPanic.normal ?_) _
        go_wp2_with fail
        go_meet
        have hb5 := HB4.out.set_ 5 (.slice (some ⟨gg, 0, none⟩) (p' + 1) cap)
        have hp1 : p' + 1 = r.votes.length + 1 := by rw [HP'.out]
        exact ⟨gg, cap, g0, Lib.hid hb5, Lib.hid (by rw [hp1]; exact HO4.out.far (p := ⟨w2.heap.size, 5, none⟩) (fun j e => by have := (HO4.out.lt j e).1; show j ≠ w2.heap.size; omega) _), Lib.hid (Ext.setCell (p := ⟨w2.heap.size, 5, none⟩) hv.1 (Nat.le_refl _) _), by omega⟩
    · have hc0 := HB.out.cell
      go_simp
      refine hK.out _ _ (hv) (fun _ => ?_)
      clear hK
      try simp only [Act.put, sA, s0, sS]
      clear hc0
      refine wpAnyH_ready (rs := [0, 5]) (by kernel_rfl) (by simp) ?_
      refine (AllReadyH.cons rfl (fun K hK => ?_) (AllReadyH.cons rfl (fun K hK => ?_) AllReadyH.nil))
      · go_simp
        refine hK.out _ _ (⟨hv.1.alloc _, hv.2.alloc _⟩) (fun _ => ?_)
        clear hK
        try simp only [Act.put, sA, s0, sS]
        have hx0 : Ext v0 (v0.alloc (.cells #[] 39)) := (Ext.refl v0).alloc _
        have hown := OwnW.lit 4 Vot 39 w2 v0
        have hgb0 : w2.heap.size < v0.heap.size := HB.out.lt
        have hbs : v0.heap.size ≤ (v0.alloc (.cells #[] 39)).heap.size := hx0.size_le
        have hv2 : Ext w2 (v0.alloc (.cells #[] 39)) ∧ Blk (v0.alloc (.cells #[] 39)) w.heap.size 39 #[.string v.who, .int .i64 v.kind, .string v.text, .slice X p q] := ⟨hv.1.alloc _, hv.2.alloc _⟩
        generalize v0.alloc (.cells #[] 39) = ve at hx0 hown hbs hv2 ⊢
        generalize v0.heap.size = g0 at hown hgb0 hbs ⊢
        have HE := Lib.hid hown
        have HB := Lib.hid (HB.out.ext hx0)
        have hv := hv2
        clear hv2 hx0 hown
        refine wpAnyH_ready (rs := [3, 5]) (by kernel_rfl) (by simp) ?_
        refine (AllReadyH.cons rfl (fun K hK => ?_) (AllReadyH.cons rfl (fun K hK => ?_) AllReadyH.nil))
        · rw [if_pos (show _ = true by kernel_rfl)]
          refine wp_append_sls (R := Vot) (fun h => Vot.one h) w2 ve hv.1 _ _ 26 39 i0 z0 rfl Tryz.underlying26 hi0 hz0 hs0 hby0 hzk0 (by decide) g0 _ [] rfl HE.out B' p' q' r.votes rfl HVS.out HP'.out (by unfold maxLen; simp; omega) (by simp; omega) hbs ?_
          intro v1 va hown3 hgrow
          rw [List.nil_append] at hown3
          have hv2 : Ext w2 va ∧ Blk va w.heap.size 39 #[.string v.who, .int .i64 v.kind, .string v.text, .slice X p q] := ⟨Below.grown hv.1 hgrow hv.1.size_le (fun j e => by have e2 : g0 = j := Option.some.inj e; omega), hv.2.grown hgrow (fun e => by have e2 : g0 = w.heap.size := Option.some.inj e; omega)⟩
          refine hK.out _ _ (hv2) (fun _ => ?_)
          clear hK
          try simp only [Act.put, sA, s0, sS]
          have hbs := Nat.le_trans hbs hgrow.size
          have HB := Lib.hid (HB.out.grown hgrow (fun e => by have e2 : g0 = w2.heap.size := Option.some.inj e; omega))
          have HO := Lib.hid hown3
          have hv := hv2
          clear hv2 hgrow hown3 HE
          refine wpAnyH_one (i := 5) (by kernel_rfl) rfl (by kernel_rfl) ?_
          go_simp
          refine ⟨⟨hv.1.alloc _, hv.2.alloc _⟩, ?_⟩
          try simp only [Act.put, sA, s0, sS]
          have hx0 : Ext va (va.alloc (.cells #[.string v.who, .int .i64 v.kind, .string v.text, .slice X p q] 39)) := (Ext.refl va).alloc _
          have hl : Blk (va.alloc (.cells #[.string v.who, .int .i64 v.kind, .string v.text, .slice X p q] 39)) va.heap.size 39 #[.string v.who, .int .i64 v.kind, .string v.text, .slice X p q] := Blk.new' rfl
          have hv2 : Ext w2 (va.alloc (.cells #[.string v.who, .int .i64 v.kind, .string v.text, .slice X p q] 39)) ∧ Blk (va.alloc (.cells #[.string v.who, .int .i64 v.kind, .string v.text, .slice X p q] 39)) w.heap.size 39 #[.string v.who, .int .i64 v.kind, .string v.text, .slice X p q] := ⟨hv.1.alloc _, hv.2.alloc _⟩
          generalize va.alloc (.cells #[.string v.who, .int .i64 v.kind, .string v.text, .slice X p q] 39) = vl at hx0 hl hv2 ⊢
          generalize va.heap.size = gl at hl ⊢
          have HL := Lib.hid hl
          have HB := Lib.hid (HB.out.ext hx0)
          have HO := Lib.hid (HO.out.ext hx0)
          have hbs := Nat.le_trans hbs hx0.size_le
          have hv := hv2
          clear hv2 hx0 hl
          refine wpAnyH_one (i := 6) (by kernel_rfl) rfl (by kernel_rfl) ?_
          refine wp_append_w (R := Vot) (fun h => Vot.one h) w2 vl _ _ 26 39 i0 z0 rfl Tryz.underlying26 hi0 hz0 hs0 hby0 hzk0 (by decide) g0 v1 r.votes rfl HO.out gl 1 [.string v.who, .int .i64 v.kind, .string v.text, .slice X p q] v rfl (HL.out.range 0 _ (fun j _ => by simp)) rfl HVT2.out (by have := HP'.out; unfold maxLen; omega) (by have := HP'.out; omega) hbs ?_
          intro gg cap v4 hown4 hgrow
          have hlt := HO.out.lt
          have hv2 : Ext w2 v4 ∧ Blk v4 w.heap.size 39 #[.string v.who, .int .i64 v.kind, .string v.text, .slice X p q] := ⟨Below.grown hv.1 hgrow hv.1.size_le (fun j e => by have := (hlt j e).1; omega), hv.2.grown hgrow (fun e => by have := (hlt _ e).1; omega)⟩
          have HB4 : Hid (Blk v4 w2.heap.size 28 #[.int .i64 r.number, .string r.author, .string r.branch, .slice A' n' m', .int .i64 r.state, .slice B' p' q']) := Lib.hid (HB.out.grown hgrow (fun e => by have := (hlt _ e).1; omega))
          have HO4 := Lib.hid hown4
          rw [HP'.out]
          refine ⟨hv2, ?_⟩
          try simp only [Act.put, sA, s0, sS]
          have hv := hv2
          clear hv2 hgrow hlt hown4
          refine take_any (i := 7) (v := .pointer (some ⟨w2.heap.size, 5, none⟩)) rfl rfl (by kernel_rfl) (by kernel_rfl) (by kernel_rfl) (.inl ⟨(by kernel_rfl), fun W' hW' => ?fa⟩) hv ?_
          case fa => go_simp
          try simp only [Act.put, sA, s0, sS]
          have hc4 := HB4.out.cell
          have hf4 := HB4.out.frozen
          refine wpAnyH_one (i := 8) (by kernel_rfl) rfl (by kernel_rfl) ?_
          go_simp
          refine ⟨⟨Ext.setCell (p := ⟨w2.heap.size, 5, none⟩) hv.1 (Nat.le_refl _) _, hv.2.far (p := ⟨w2.heap.size, 5, none⟩) (Nat.ne_of_lt hgv) _⟩, ?_⟩
          try simp only [Act.put, sA, s0, sS]
          clear hc4 hf4
          refine wpAnyH_done (by kernel_rfl) (NoPanic.normal ?_) _
          go_wp2_with fail
          go_meet
          have hb5 := HB4.out.set_ 5 (.slice (some ⟨gg, 0, none⟩) (p' + 1) cap)
          have hp1 : p' + 1 = r.votes.length + 1 := by rw [HP'.out]
          exact ⟨gg, cap, g0, Lib.hid hb5, Lib.hid (by rw [hp1]; exact HO4.out.far (p := ⟨w2.heap.size, 5, none⟩) (fun j e => by have := (HO4.out.lt j e).1; show j ≠ w2.heap.size; omega) _), Lib.hid (Ext.setCell (p := ⟨w2.heap.size, 5, none⟩) hv.1 (Nat.le_refl _) _), by omega⟩
        · go_simp
          refine hK.out _ _ (⟨hv.1.alloc _, hv.2.alloc _⟩) (fun _ => ?_)
          clear hK
          try simp only [Act.put, sA, s0, sS]
          have hx0 : Ext ve (ve.alloc (.cells #[.string v.who, .int .i64 v.kind, .string v.text, .slice X p q] 39)) := (Ext.refl ve).alloc _
          have hl : Blk (ve.alloc (.cells #[.string v.who, .int .i64 v.kind, .string v.text, .slice X p q] 39)) ve.heap.size 39 #[.string v.who, .int .i64 v.kind, .string v.text, .slice X p q] := Blk.new' rfl
          have hne0 : g0 ≠ ve.heap.size := Nat.ne_of_lt (HE.out.lt g0 rfl).2
          have hv2 : Ext w2 (ve.alloc (.cells #[.string v.who, .int .i64 v.kind, .string v.text, .slice X p q] 39)) ∧ Blk (ve.alloc (.cells #[.string v.who, .int .i64 v.kind, .string v.text, .slice X p q] 39)) w.heap.size 39 #[.string v.who, .int .i64 v.kind, .string v.text, .slice X p q] := ⟨hv.1.alloc _, hv.2.alloc _⟩
          generalize ve.alloc (.cells #[.string v.who, .int .i64 v.kind, .string v.text, .slice X p q] 39) = vl at hx0 hl hv2 ⊢
          generalize ve.heap.size = gl at hl hne0 ⊢
          have HL := Lib.hid hl
          have HB := Lib.hid (HB.out.ext hx0)
          have HE := Lib.hid (HE.out.ext hx0)
          have hbs := Nat.le_trans hbs hx0.size_le
          have hv := hv2
          clear hv2 hx0 hl
          refine wpAnyH_one (i := 3) (by kernel_rfl) rfl (by kernel_rfl) ?_
          refine wp_append_sls (R := Vot) (fun h => Vot.one h) w2 vl hv.1 _ _ 26 39 i0 z0 rfl Tryz.underlying26 hi0 hz0 hs0 hby0 hzk0 (by decide) g0 _ [] rfl HE.out B' p' q' r.votes rfl HVS.out HP'.out (by unfold maxLen; simp; omega) (by simp; omega) hbs ?_
          intro v1 va hown3 hgrow
          rw [List.nil_append] at hown3
          have hv2 : Ext w2 va ∧ Blk va w.heap.size 39 #[.string v.who, .int .i64 v.kind, .string v.text, .slice X p q] := ⟨Below.grown hv.1 hgrow hv.1.size_le (fun j e => by have e2 : g0 = j := Option.some.inj e; omega), hv.2.grown hgrow (fun e => by have e2 : g0 = w.heap.size := Option.some.inj e; omega)⟩
          refine ⟨hv2, ?_⟩
          try simp only [Act.put, sA, s0, sS]
          have hbs := Nat.le_trans hbs hgrow.size
          have HB := Lib.hid (HB.out.grown hgrow (fun e => by have e2 : g0 = w2.heap.size := Option.some.inj e; omega))
          have HL := Lib.hid (HL.out.grown hgrow (fun e => hne0 (Option.some.inj e)))
          have HO := Lib.hid hown3
          have hv := hv2
          clear hv2 hgrow hown3 HE
          refine wpAnyH_one (i := 6) (by kernel_rfl) rfl (by kernel_rfl) ?_
          refine wp_append_w (R := Vot) (fun h => Vot.one h) w2 va _ _ 26 39 i0 z0 rfl Tryz.underlying26 hi0 hz0 hs0 hby0 hzk0 (by decide) g0 v1 r.votes rfl HO.out gl 1 [.string v.who, .int .i64 v.kind, .string v.text, .slice X p q] v rfl (HL.out.range 0 _ (fun j _ => by simp)) rfl HVT2.out (by have := HP'.out; unfold maxLen; omega) (by have := HP'.out; omega) hbs ?_
          intro gg cap v4 hown4 hgrow
          have hlt := HO.out.lt
          have hv2 : Ext w2 v4 ∧ Blk v4 w.heap.size 39 #[.string v.who, .int .i64 v.kind, .string v.text, .slice X p q] := ⟨Below.grown hv.1 hgrow hv.1.size_le (fun j e => by have := (hlt j e).1; omega), hv.2.grown hgrow (fun e => by have := (hlt _ e).1; omega)⟩
          have HB4 : Hid (Blk v4 w2.heap.size 28 #[.int .i64 r.number, .string r.author, .string r.branch, .slice A' n' m', .int .i64 r.state, .slice B' p' q']) := Lib.hid (HB.out.grown hgrow (fun e => by have := (hlt _ e).1; omega))
          have HO4 := Lib.hid hown4
          rw [HP'.out]
          refine ⟨hv2, ?_⟩
          try simp only [Act.put, sA, s0, sS]
          have hv := hv2
          clear hv2 hgrow hlt hown4
          refine take_any (i := 7) (v := .pointer (some ⟨w2.heap.size, 5, none⟩)) rfl rfl (by kernel_rfl) (by kernel_rfl) (by kernel_rfl) (.inl ⟨(by kernel_rfl), fun W' hW' => ?fa⟩) hv ?_
          case fa => go_simp
          try simp only [Act.put, sA, s0, sS]
          have hc4 := HB4.out.cell
          have hf4 := HB4.out.frozen
          refine wpAnyH_one (i := 8) (by kernel_rfl) rfl (by kernel_rfl) ?_
          go_simp
          refine ⟨⟨Ext.setCell (p := ⟨w2.heap.size, 5, none⟩) hv.1 (Nat.le_refl _) _, hv.2.far (p := ⟨w2.heap.size, 5, none⟩) (Nat.ne_of_lt hgv) _⟩, ?_⟩
          try simp only [Act.put, sA, s0, sS]
          clear hc4 hf4
          refine wpAnyH_done (by kernel_rfl) (NoPanic.normal ?_) _
          go_wp2_with fail
          go_meet
          have hb5 := HB4.out.set_ 5 (.slice (some ⟨gg, 0, none⟩) (p' + 1) cap)
          have hp1 : p' + 1 = r.votes.length + 1 := by rw [HP'.out]
          exact ⟨gg, cap, g0, Lib.hid hb5, Lib.hid (by rw [hp1]; exact HO4.out.far (p := ⟨w2.heap.size, 5, none⟩) (fun j e => by have := (HO4.out.lt j e).1; show j ≠ w2.heap.size; omega) _), Lib.hid (Ext.setCell (p := ⟨w2.heap.size, 5, none⟩) hv.1 (Nat.le_refl _) _), by omega⟩
      · go_simp
        refine hK.out _ _ (⟨hv.1.alloc _, hv.2.alloc _⟩) (fun _ => ?_)
        clear hK
        try simp only [Act.put, sA, s0, sS]
        have hx0 : Ext v0 (v0.alloc (.cells #[.string v.who, .int .i64 v.kind, .string v.text, .slice X p q] 39)) := (Ext.refl v0).alloc _
        have hl : Blk (v0.alloc (.cells #[.string v.who, .int .i64 v.kind, .string v.text, .slice X p q] 39)) v0.heap.size 39 #[.string v.who, .int .i64 v.kind, .string v.text, .slice X p q] := Blk.new' rfl
        have hv2 : Ext w2 (v0.alloc (.cells #[.string v.who, .int .i64 v.kind, .string v.text, .slice X p q] 39)) ∧ Blk (v0.alloc (.cells #[.string v.who, .int .i64 v.kind, .string v.text, .slice X p q] 39)) w.heap.size 39 #[.string v.who, .int .i64 v.kind, .string v.text, .slice X p q] := ⟨hv.1.alloc _, hv.2.alloc _⟩
        generalize v0.alloc (.cells #[.string v.who, .int .i64 v.kind, .string v.text, .slice X p q] 39) = vl at hx0 hl hv2 ⊢
        generalize v0.heap.size = gl at hl ⊢
        have HL := Lib.hid hl
        have HB := Lib.hid (HB.out.ext hx0)
        have hv := hv2
        clear hv2 hx0 hl
        refine wpAnyH_one (i := 0) (by kernel_rfl) rfl (by kernel_rfl) ?_
        go_simp
        refine ⟨⟨hv.1.alloc _, hv.2.alloc _⟩, ?_⟩
        try simp only [Act.put, sA, s0, sS]
        have hx0 : Ext vl (vl.alloc (.cells #[] 39)) := (Ext.refl vl).alloc _
        have hown := OwnW.lit 4 Vot 39 w2 vl
        have hgb0 : w2.heap.size < vl.heap.size := HB.out.lt
        have hne0 : vl.heap.size ≠ gl := Ne.symm (Nat.ne_of_lt HL.out.lt)
        have hbs : vl.heap.size ≤ (vl.alloc (.cells #[] 39)).heap.size := hx0.size_le
        have hv2 : Ext w2 (vl.alloc (.cells #[] 39)) ∧ Blk (vl.alloc (.cells #[] 39)) w.heap.size 39 #[.string v.who, .int .i64 v.kind, .string v.text, .slice X p q] := ⟨hv.1.alloc _, hv.2.alloc _⟩
        generalize vl.alloc (.cells #[] 39) = ve at hx0 hown hbs hv2 ⊢
        generalize vl.heap.size = g0 at hown hgb0 hbs hne0 ⊢
        have HE := Lib.hid hown
        have HB := Lib.hid (HB.out.ext hx0)
        have HL := Lib.hid (HL.out.ext hx0)
        have hv := hv2
        clear hv2 hx0 hown
        refine wpAnyH_one (i := 3) (by kernel_rfl) rfl (by kernel_rfl) ?_
        refine wp_append_sls (R := Vot) (fun h => Vot.one h) w2 ve hv.1 _ _ 26 39 i0 z0 rfl Tryz.underlying26 hi0 hz0 hs0 hby0 hzk0 (by decide) g0 _ [] rfl HE.out B' p' q' r.votes rfl HVS.out HP'.out (by unfold maxLen; simp; omega) (by simp; omega) hbs ?_
        intro v1 va hown3 hgrow
        rw [List.nil_append] at hown3
        have hv2 : Ext w2 va ∧ Blk va w.heap.size 39 #[.string v.who, .int .i64 v.kind, .string v.text, .slice X p q] := ⟨Below.grown hv.1 hgrow hv.1.size_le (fun j e => by have e2 : g0 = j := Option.some.inj e; omega), hv.2.grown hgrow (fun e => by have e2 : g0 = w.heap.size := Option.some.inj e; omega)⟩
        refine ⟨hv2, ?_⟩
        try simp only [Act.put, sA, s0, sS]
        have hbs := Nat.le_trans hbs hgrow.size
        have HB := Lib.hid (HB.out.grown hgrow (fun e => by have e2 : g0 = w2.heap.size := Option.some.inj e; omega))
        have HL := Lib.hid (HL.out.grown hgrow (fun e => hne0 (Option.some.inj e)))
        have HO := Lib.hid hown3
        have hv := hv2
        clear hv2 hgrow hown3 HE
        refine wpAnyH_one (i := 6) (by kernel_rfl) rfl (by kernel_rfl) ?_
        refine wp_append_w (R := Vot) (fun h => Vot.one h) w2 va _ _ 26 39 i0 z0 rfl Tryz.underlying26 hi0 hz0 hs0 hby0 hzk0 (by decide) g0 v1 r.votes rfl HO.out gl 1 [.string v.who, .int .i64 v.kind, .string v.text, .slice X p q] v rfl (HL.out.range 0 _ (fun j _ => by simp)) rfl HVT2.out (by have := HP'.out; unfold maxLen; omega) (by have := HP'.out; omega) hbs ?_
        intro gg cap v4 hown4 hgrow
        have hlt := HO.out.lt
        have hv2 : Ext w2 v4 ∧ Blk v4 w.heap.size 39 #[.string v.who, .int .i64 v.kind, .string v.text, .slice X p q] := ⟨Below.grown hv.1 hgrow hv.1.size_le (fun j e => by have := (hlt j e).1; omega), hv.2.grown hgrow (fun e => by have := (hlt _ e).1; omega)⟩
        have HB4 : Hid (Blk v4 w2.heap.size 28 #[.int .i64 r.number, .string r.author, .string r.branch, .slice A' n' m', .int .i64 r.state, .slice B' p' q']) := Lib.hid (HB.out.grown hgrow (fun e => by have := (hlt _ e).1; omega))
        have HO4 := Lib.hid hown4
        rw [HP'.out]
        refine ⟨hv2, ?_⟩
        try simp only [Act.put, sA, s0, sS]
        have hv := hv2
        clear hv2 hgrow hlt hown4
        refine take_any (i := 7) (v := .pointer (some ⟨w2.heap.size, 5, none⟩)) rfl rfl (by kernel_rfl) (by kernel_rfl) (by kernel_rfl) (.inl ⟨(by kernel_rfl), fun W' hW' => ?fa⟩) hv ?_
        case fa => go_simp
        try simp only [Act.put, sA, s0, sS]
        have hc4 := HB4.out.cell
        have hf4 := HB4.out.frozen
        refine wpAnyH_one (i := 8) (by kernel_rfl) rfl (by kernel_rfl) ?_
        go_simp
        refine ⟨⟨Ext.setCell (p := ⟨w2.heap.size, 5, none⟩) hv.1 (Nat.le_refl _) _, hv.2.far (p := ⟨w2.heap.size, 5, none⟩) (Nat.ne_of_lt hgv) _⟩, ?_⟩
        try simp only [Act.put, sA, s0, sS]
        clear hc4 hf4
        refine wpAnyH_done (by kernel_rfl) (NoPanic.normal ?_) _
        go_wp2_with fail
        go_meet
        have hb5 := HB4.out.set_ 5 (.slice (some ⟨gg, 0, none⟩) (p' + 1) cap)
        have hp1 : p' + 1 = r.votes.length + 1 := by rw [HP'.out]
        exact ⟨gg, cap, g0, Lib.hid hb5, Lib.hid (by rw [hp1]; exact HO4.out.far (p := ⟨w2.heap.size, 5, none⟩) (fun j e => by have := (HO4.out.lt j e).1; show j ≠ w2.heap.size; omega) _), Lib.hid (Ext.setCell (p := ⟨w2.heap.size, 5, none⟩) hv.1 (Nat.le_refl _) _), by omega⟩
    · go_simp
      refine hK.out _ _ (⟨hv.1.alloc _, hv.2.alloc _⟩) (fun _ => ?_)
      clear hK
      try simp only [Act.put, sA, s0, sS]
      have hx0 : Ext v0 (v0.alloc (.cells #[.string v.who, .int .i64 v.kind, .string v.text, .slice X p q] 39)) := (Ext.refl v0).alloc _
      have hl : Blk (v0.alloc (.cells #[.string v.who, .int .i64 v.kind, .string v.text, .slice X p q] 39)) v0.heap.size 39 #[.string v.who, .int .i64 v.kind, .string v.text, .slice X p q] := Blk.new' rfl
      have hv2 : Ext w2 (v0.alloc (.cells #[.string v.who, .int .i64 v.kind, .string v.text, .slice X p q] 39)) ∧ Blk (v0.alloc (.cells #[.string v.who, .int .i64 v.kind, .string v.text, .slice X p q] 39)) w.heap.size 39 #[.string v.who, .int .i64 v.kind, .string v.text, .slice X p q] := ⟨hv.1.alloc _, hv.2.alloc _⟩
      generalize v0.alloc (.cells #[.string v.who, .int .i64 v.kind, .string v.text, .slice X p q] 39) = vl at hx0 hl hv2 ⊢
      generalize v0.heap.size = gl at hl ⊢
      have HL := Lib.hid hl
      have HB := Lib.hid (HB.out.ext hx0)
      have hv := hv2
      clear hv2 hx0 hl
      refine wpAnyH_ready (rs := [0, 2]) (by kernel_rfl) (by simp) ?_
      refine (AllReadyH.cons rfl (fun K hK => ?_) (AllReadyH.cons rfl (fun K hK => ?_) AllReadyH.nil))
      · go_simp
        refine hK.out _ _ (⟨hv.1.alloc _, hv.2.alloc _⟩) (fun _ => ?_)
        clear hK
        try simp only [Act.put, sA, s0, sS]
        have hx0 : Ext vl (vl.alloc (.cells #[] 39)) := (Ext.refl vl).alloc _
        have hown := OwnW.lit 4 Vot 39 w2 vl
        have hgb0 : w2.heap.size < vl.heap.size := HB.out.lt
        have hne0 : vl.heap.size ≠ gl := Ne.symm (Nat.ne_of_lt HL.out.lt)
        have hbs : vl.heap.size ≤ (vl.alloc (.cells #[] 39)).heap.size := hx0.size_le
        have hv2 : Ext w2 (vl.alloc (.cells #[] 39)) ∧ Blk (vl.alloc (.cells #[] 39)) w.heap.size 39 #[.string v.who, .int .i64 v.kind, .string v.text, .slice X p q] := ⟨hv.1.alloc _, hv.2.alloc _⟩
        generalize vl.alloc (.cells #[] 39) = ve at hx0 hown hbs hv2 ⊢
        generalize vl.heap.size = g0 at hown hgb0 hbs hne0 ⊢
        have HE := Lib.hid hown
        have HB := Lib.hid (HB.out.ext hx0)
        have HL := Lib.hid (HL.out.ext hx0)
        have hv := hv2
        clear hv2 hx0 hown
        refine wpAnyH_one (i := 2) (by kernel_rfl) rfl (by kernel_rfl) ?_
        have hc0 := HB.out.cell
        go_simp
        (first | refine ⟨hv, ?_⟩ | skip)
        try simp only [Act.put, sA, s0, sS]
        clear hc0
        refine wpAnyH_one (i := 3) (by kernel_rfl) rfl (by kernel_rfl) ?_
        refine wp_append_sls (R := Vot) (fun h => Vot.one h) w2 ve hv.1 _ _ 26 39 i0 z0 rfl Tryz.underlying26 hi0 hz0 hs0 hby0 hzk0 (by decide) g0 _ [] rfl HE.out B' p' q' r.votes rfl HVS.out HP'.out (by unfold maxLen; simp; omega) (by simp; omega) hbs ?_
        intro v1 va hown3 hgrow
        rw [List.nil_append] at hown3
        have hv2 : Ext w2 va ∧ Blk va w.heap.size 39 #[.string v.who, .int .i64 v.kind, .string v.text, .slice X p q] := ⟨Below.grown hv.1 hgrow hv.1.size_le (fun j e => by have e2 : g0 = j := Option.some.inj e; omega), hv.2.grown hgrow (fun e => by have e2 : g0 = w.heap.size := Option.some.inj e; omega)⟩
        refine ⟨hv2, ?_⟩
        try simp only [Act.put, sA, s0, sS]
        have hbs := Nat.le_trans hbs hgrow.size
        have HB := Lib.hid (HB.out.grown hgrow (fun e => by have e2 : g0 = w2.heap.size := Option.some.inj e; omega))
        have HL := Lib.hid (HL.out.grown hgrow (fun e => hne0 (Option.some.inj e)))
        have HO := Lib.hid hown3
        have hv := hv2
        clear hv2 hgrow hown3 HE
        refine wpAnyH_one (i := 6) (by kernel_rfl) rfl (by kernel_rfl) ?_
        refine wp_append_w (R := Vot) (fun h => Vot.one h) w2 va _ _ 26 39 i0 z0 rfl Tryz.underlying26 hi0 hz0 hs0 hby0 hzk0 (by decide) g0 v1 r.votes rfl HO.out gl 1 [.string v.who, .int .i64 v.kind, .string v.text, .slice X p q] v rfl (HL.out.range 0 _ (fun j _ => by simp)) rfl HVT2.out (by have := HP'.out; unfold maxLen; omega) (by have := HP'.out; omega) hbs ?_
        intro gg cap v4 hown4 hgrow
        have hlt := HO.out.lt
        have hv2 : Ext w2 v4 ∧ Blk v4 w.heap.size 39 #[.string v.who, .int .i64 v.kind, .string v.text, .slice X p q] := ⟨Below.grown hv.1 hgrow hv.1.size_le (fun j e => by have := (hlt j e).1; omega), hv.2.grown hgrow (fun e => by have := (hlt _ e).1; omega)⟩
        have HB4 : Hid (Blk v4 w2.heap.size 28 #[.int .i64 r.number, .string r.author, .string r.branch, .slice A' n' m', .int .i64 r.state, .slice B' p' q']) := Lib.hid (HB.out.grown hgrow (fun e => by have := (hlt _ e).1; omega))
        have HO4 := Lib.hid hown4
        rw [HP'.out]
        refine ⟨hv2, ?_⟩
        try simp only [Act.put, sA, s0, sS]
        have hv := hv2
        clear hv2 hgrow hlt hown4
        refine take_any (i := 7) (v := .pointer (some ⟨w2.heap.size, 5, none⟩)) rfl rfl (by kernel_rfl) (by kernel_rfl) (by kernel_rfl) (.inl ⟨(by kernel_rfl), fun W' hW' => ?fa⟩) hv ?_
        case fa => go_simp
        try simp only [Act.put, sA, s0, sS]
        have hc4 := HB4.out.cell
        have hf4 := HB4.out.frozen
        refine wpAnyH_one (i := 8) (by kernel_rfl) rfl (by kernel_rfl) ?_
        go_simp
        refine ⟨⟨Ext.setCell (p := ⟨w2.heap.size, 5, none⟩) hv.1 (Nat.le_refl _) _, hv.2.far (p := ⟨w2.heap.size, 5, none⟩) (Nat.ne_of_lt hgv) _⟩, ?_⟩
        try simp only [Act.put, sA, s0, sS]
        clear hc4 hf4
        refine wpAnyH_done (by kernel_rfl) (NoPanic.normal ?_) _
        go_wp2_with fail
        go_meet
        have hb5 := HB4.out.set_ 5 (.slice (some ⟨gg, 0, none⟩) (p' + 1) cap)
        have hp1 : p' + 1 = r.votes.length + 1 := by rw [HP'.out]
        exact ⟨gg, cap, g0, Lib.hid hb5, Lib.hid (by rw [hp1]; exact HO4.out.far (p := ⟨w2.heap.size, 5, none⟩) (fun j e => by have := (HO4.out.lt j e).1; show j ≠ w2.heap.size; omega) _), Lib.hid (Ext.setCell (p := ⟨w2.heap.size, 5, none⟩) hv.1 (Nat.le_refl _) _), by omega⟩
      · have hc0 := HB.out.cell
        go_simp
        refine hK.out _ _ (hv) (fun _ => ?_)
        clear hK
        try simp only [Act.put, sA, s0, sS]
        clear hc0
        refine wpAnyH_one (i := 0) (by kernel_rfl) rfl (by kernel_rfl) ?_
        go_simp
        refine ⟨⟨hv.1.alloc _, hv.2.alloc _⟩, ?_⟩
        try simp only [Act.put, sA, s0, sS]
        have hx0 : Ext vl (vl.alloc (.cells #[] 39)) := (Ext.refl vl).alloc _
        have hown := OwnW.lit 4 Vot 39 w2 vl
        have hgb0 : w2.heap.size < vl.heap.size := HB.out.lt
        have hne0 : vl.heap.size ≠ gl := Ne.symm (Nat.ne_of_lt HL.out.lt)
        have hbs : vl.heap.size ≤ (vl.alloc (.cells #[] 39)).heap.size := hx0.size_le
        have hv2 : Ext w2 (vl.alloc (.cells #[] 39)) ∧ Blk (vl.alloc (.cells #[] 39)) w.heap.size 39 #[.string v.who, .int .i64 v.kind, .string v.text, .slice X p q] := ⟨hv.1.alloc _, hv.2.alloc _⟩
        generalize vl.alloc (.cells #[] 39) = ve at hx0 hown hbs hv2 ⊢
        generalize vl.heap.size = g0 at hown hgb0 hbs hne0 ⊢
        have HE := Lib.hid hown
        have HB := Lib.hid (HB.out.ext hx0)
        have HL := Lib.hid (HL.out.ext hx0)
        have hv := hv2
        clear hv2 hx0 hown
        refine wpAnyH_one (i := 3) (by kernel_rfl) rfl (by kernel_rfl) ?_
        refine wp_append_sls (R := Vot) (fun h => Vot.one h) w2 ve hv.1 _ _ 26 39 i0 z0 rfl Tryz.underlying26 hi0 hz0 hs0 hby0 hzk0 (by decide) g0 _ [] rfl HE.out B' p' q' r.votes rfl HVS.out HP'.out (by unfold maxLen; simp; omega) (by simp; omega) hbs ?_
        intro v1 va hown3 hgrow
        rw [List.nil_append] at hown3
        have hv2 : Ext w2 va ∧ Blk va w.heap.size 39 #[.string v.who, .int .i64 v.kind, .string v.text, .slice X p q] := ⟨Below.grown hv.1 hgrow hv.1.size_le (fun j e => by have e2 : g0 = j := Option.some.inj e; omega), hv.2.grown hgrow (fun e => by have e2 : g0 = w.heap.size := Option.some.inj e; omega)⟩
        refine ⟨hv2, ?_⟩
        try simp only [Act.put, sA, s0, sS]
        have hbs := Nat.le_trans hbs hgrow.size
        have HB := Lib.hid (HB.out.grown hgrow (fun e => by have e2 : g0 = w2.heap.size := Option.some.inj e; omega))
        have HL := Lib.hid (HL.out.grown hgrow (fun e => hne0 (Option.some.inj e)))
        have HO := Lib.hid hown3
        have hv := hv2
        clear hv2 hgrow hown3 HE
        refine wpAnyH_one (i := 6) (by kernel_rfl) rfl (by kernel_rfl) ?_
        refine wp_append_w (R := Vot) (fun h => Vot.one h) w2 va _ _ 26 39 i0 z0 rfl Tryz.underlying26 hi0 hz0 hs0 hby0 hzk0 (by decide) g0 v1 r.votes rfl HO.out gl 1 [.string v.who, .int .i64 v.kind, .string v.text, .slice X p q] v rfl (HL.out.range 0 _ (fun j _ => by simp)) rfl HVT2.out (by have := HP'.out; unfold maxLen; omega) (by have := HP'.out; omega) hbs ?_
        intro gg cap v4 hown4 hgrow
        have hlt := HO.out.lt
        have hv2 : Ext w2 v4 ∧ Blk v4 w.heap.size 39 #[.string v.who, .int .i64 v.kind, .string v.text, .slice X p q] := ⟨Below.grown hv.1 hgrow hv.1.size_le (fun j e => by have := (hlt j e).1; omega), hv.2.grown hgrow (fun e => by have := (hlt _ e).1; omega)⟩
        have HB4 : Hid (Blk v4 w2.heap.size 28 #[.int .i64 r.number, .string r.author, .string r.branch, .slice A' n' m', .int .i64 r.state, .slice B' p' q']) := Lib.hid (HB.out.grown hgrow (fun e => by have := (hlt _ e).1; omega))
        have HO4 := Lib.hid hown4
        rw [HP'.out]
        refine ⟨hv2, ?_⟩
        try simp only [Act.put, sA, s0, sS]
        have hv := hv2
        clear hv2 hgrow hlt hown4
        refine take_any (i := 7) (v := .pointer (some ⟨w2.heap.size, 5, none⟩)) rfl rfl (by kernel_rfl) (by kernel_rfl) (by kernel_rfl) (.inl ⟨(by kernel_rfl), fun W' hW' => ?fa⟩) hv ?_
        case fa => go_simp
        try simp only [Act.put, sA, s0, sS]
        have hc4 := HB4.out.cell
        have hf4 := HB4.out.frozen
        refine wpAnyH_one (i := 8) (by kernel_rfl) rfl (by kernel_rfl) ?_
        go_simp
        refine ⟨⟨Ext.setCell (p := ⟨w2.heap.size, 5, none⟩) hv.1 (Nat.le_refl _) _, hv.2.far (p := ⟨w2.heap.size, 5, none⟩) (Nat.ne_of_lt hgv) _⟩, ?_⟩
        try simp only [Act.put, sA, s0, sS]
        clear hc4 hf4
        refine wpAnyH_done (by kernel_rfl) (NoPanic.normal ?_) _
        go_wp2_with fail
        go_meet
        have hb5 := HB4.out.set_ 5 (.slice (some ⟨gg, 0, none⟩) (p' + 1) cap)
        have hp1 : p' + 1 = r.votes.length + 1 := by rw [HP'.out]
        exact ⟨gg, cap, g0, Lib.hid hb5, Lib.hid (by rw [hp1]; exact HO4.out.far (p := ⟨w2.heap.size, 5, none⟩) (fun j e => by have := (HO4.out.lt j e).1; show j ≠ w2.heap.size; omega) _), Lib.hid (Ext.setCell (p := ⟨w2.heap.size, 5, none⟩) hv.1 (Nat.le_refl _) _), by omega⟩
  case rest =>
    obtain ⟨gg, cap, base, HB5, HO5, HY5, hgb⟩ := hcut
    have HR4 : Hid (∀ (W : World) (st : Int), Ext w2 W → OwnW 4 Vot 39 w2 W base All (.slice (some ⟨gg, 0, none⟩) (p' + 1) cap) (r.votes ++ [v]) → Rev W All [.int .i64 r.number, .string r.author, .string r.branch, .slice A' n' m', .int .i64 st, .slice (some ⟨gg, 0, none⟩) (p' + 1) cap] { r with votes := r.votes ++ [v], state := st }) := Lib.hid fun W st hW ho => by
      obtain ⟨A9, c9, e9, hle, hsl⟩ := ho.sls Vot.steadfast hW
      have hl9 : (r.votes ++ [v]).length = p' + 1 := by rw [List.length_append, HP'.out]; rfl
      obtain ⟨rfl, _, rfl⟩ : some ⟨gg, 0, none⟩ = A9 ∧ p' + 1 = (r.votes ++ [v]).length ∧ cap = c9 := by simpa using e9
      exact ⟨A', n', m', _, _, _, rfl, ⟨HN'.out, HM'.out, Ds.ext HIDS.out hW⟩, hl9, by rw [hl9] at hle; exact hle, hsl⟩
    have HFX : Hid (({ r with votes := r.votes ++ [v] } : Rv).Fits) := Lib.hid ⟨HRF.out.author, HRF.out.branch, HRF.out.ids, by show (r.votes ++ [v]).length ≤ _; have := HP'.out; rw [List.length_append, List.length_singleton]; omega, fun x hx => by
      rcases List.mem_append.1 hx with hx | hx
      · exact HRF.out.each x hx
      · rw [List.mem_singleton.1 hx]; exact HVF.out⟩
    have HST : Hid (∀ W, Ext wc W → Calls Tryz.prog 82 #[.agg #[.int .i64 r.number, .string r.author, .string r.branch, .slice A' n' m', .int .i64 r.state, .slice (some ⟨gg, 0, none⟩) (p' + 1) cap], .int .i64 need] W (Ret (.int .i64 (Vw.follows { r with votes := r.votes ++ [v] } need)) W)) := Lib.hid fun W hW => follows_any _ { r with votes := r.votes ++ [v] } need W (HR4.out W r.state (HY5.out.trans hW) (HO5.out.ext hW)) HFX.out (by show (r.votes ++ [v]).length ≤ _; have := HP'.out; rw [List.length_append, List.length_singleton]; omega)
    have HVO : Hid (Vw.voted v need r = { r with votes := r.votes ++ [v], state := Vw.follows { r with votes := r.votes ++ [v] } need }) := Lib.hid rfl
    generalize Vw.follows { r with votes := r.votes ++ [v] } need = St at HST HVO
    obtain ⟨hc0, hf0, hl0⟩ := HB5.out.all
    go_wp2_with fail
    refine (HST.out _ (Ext.refl wc)).mono ?_
    rintro e w6 ⟨rfl, hx0⟩
    have HB6 := Lib.hid (HB5.out.ext hx0)
    have HO6 := Lib.hid (HO5.out.ext hx0)
    have HY6 := Lib.hid (HY5.out.trans hx0)
    clear hx0 HST hc0 hf0 hl0 HB5 HO5 HY5
    obtain ⟨hc0, hf0, hl0⟩ := HB6.out.all
    go_wp2_with fail
    have HYX := Lib.hid (Ext.setCell (p := ⟨w2.heap.size, 4, none⟩) HY6.out (Nat.le_refl _) (.int .i64 St))
    have HNR := Lib.hid (HR4.out _ St HYX.out (HO6.out.far (p := ⟨w2.heap.size, 4, none⟩) (fun j e => by have := (HO6.out.lt j e).1; show j ≠ w2.heap.size; omega) _))
    refine (HW.out _ k [.int .i64 r.number, .string r.author, .string r.branch, .slice A' n' m', .int .i64 St, .slice (some ⟨gg, 0, none⟩) (p' + 1) cap] { r with votes := r.votes ++ [v], state := St } (HX2.out.trans HYX.out) HNR.out HRN.out hkl).mono ?_
    rintro e w9 ⟨A9, n9, c9, rfl, hrv, hx9⟩
    have HRV := Lib.hid hrv
    have HX9 := Lib.hid ((HX2.out.trans HYX.out).trans hx9)
    clear hrv hx9
    go_wp2_with fail
    go_ret2
    have hrv2 := HRV.out
    rw [← HVO.out] at hrv2
    exact ⟨_, _, _, rfl, hrv2, HX9.out⟩
end Go.Proofs.YtojfgidoobgcaaaGreatDoor
namespace Go.Proofs.YtojfgidoobgcaaaGreatDoor
open Go Go.RowKit

set_option maxHeartbeats 16000000 in
set_option maxRecDepth 100000 in
/-- want. -/
theorem want_any (B : Option Addr) (bn bc : Nat) (l : List Rv) (c : List Value) (a : Vw.Ac) (w : World) (hg : Glob w) (h : Revs w B bn bc l) (hb : bn ≤ 1000000000) (hf : ∀ r ∈ l, r.Fits) (ha : ActR w All c a) (hfa : a.Fits) :
    Calls Tryz.prog 28 #[.slice B bn bc, .agg c.toArray] w (GivesN w (Vw.act l a)) := by
  obtain ⟨A, n, m, X, p, q, rfl, ⟨hn, hm, hd⟩, hp, hpq, hv⟩ := ha
  have hvf : a.vote.Fits := hfa.each a.vote (by simp [Vw.Ac.rv])
  have hnb : n ≤ 1000000000 := by rw [← hn]; exact hfa.ids
  have H0 : Hid (∀ W, Ext w W → Calls Tryz.prog 52 #[.slice B bn bc, .string a.who, .string a.branch, .slice A n m] W (GivesN W (Vw.propose l a.who a.branch a.ids))) := Lib.hid fun W hW =>
    rpropose_any B bn bc a.who a.branch A n m l a.ids W (hg.ext hW) (Rs.ext h.reads hW) h.len hb hf hfa.author hfa.branch (Ds.ext hd hW) hn hm hnb
  have H1 : Hid (∀ W, Ext w W → Calls Tryz.prog 53 #[.slice B bn bc, .int .i64 a.number, .string a.who, .slice A n m] W (GivesR W (Vw.update l a.number a.who a.ids))) := Lib.hid fun W hW =>
    rupdate_any B bn bc a.number a.who A n m a.ids l W (hg.ext hW) (Rs.ext h.reads hW) h.len hb hf (Ds.ext hd hW) hn hm hnb
  have H2 : Hid (∀ W, Ext w W → Calls Tryz.prog 54 #[.slice B bn bc, .int .i64 a.number, .agg #[.string a.vote.who, .int .i64 a.vote.kind, .string a.vote.text, .slice X p q], .int .i64 a.need] W (GivesR W (Vw.addVote l a.number a.vote a.need))) := Lib.hid fun W hW =>
    rvote55_any B bn bc a.number a.vote a.need X p q l W (hg.ext hW) (Rs.ext h.reads hW) h.len hb hf (Ds.ext hv hW) hp hpq hvf
  have H3 : Hid (∀ W, Ext w W → Calls Tryz.prog 55 #[.slice B bn bc, .int .i64 a.number, .string a.who, .int .i64 a.state] W (GivesR W (Vw.close l a.number a.who a.state))) := Lib.hid fun W hW =>
    rclose_any B bn bc a.number a.who a.state l W (hg.ext hW) (Rs.ext h.reads hW) h.len hb hf
  have HU : Hid (Vw.act l a = if a.kind = 0 then Vw.propose l a.who a.branch a.ids
    else if a.kind = 1 then ((Vw.update l a.number a.who a.ids).1, 0, (Vw.update l a.number a.who a.ids).2)
    else if a.kind = 2 then ((Vw.addVote l a.number a.vote a.need).1, 0, (Vw.addVote l a.number a.vote a.need).2)
    else if a.kind = 3 then ((Vw.close l a.number a.who a.state).1, 0, (Vw.close l a.number a.who a.state).2)
    else (l, 0, 8)) := Lib.hid rfl
  have HR := Lib.hid h
  generalize Vw.act l a = R at HU ⊢
  generalize Vw.propose l a.who a.branch a.ids = Z0 at HU H0
  generalize Vw.update l a.number a.who a.ids = Z1 at HU H1
  generalize Vw.addVote l a.number a.vote a.need = Z2 at HU H2
  generalize Vw.close l a.number a.who a.state = Z3 at HU H3
  clear h hg hn hm hd hp hpq hv hvf hf hfa hb
  generalize a.kind = kd at HU ⊢
  go_enter Tryz.func28, Tryz.ntmps28
  have hx := Ext.refl w
  by_cases k0 : kd = 0
  · subst k0
    have hv : R = Z0 := by rw [HU.out, if_pos rfl]
    clear HU
    subst hv
    go_wp2_with fail
    refine (H0.out _ (hx.alloc _)).mono ?_
    rintro e w1 ⟨A1, n1, c1, rfl, hrv, hx0⟩
    have HRV := Lib.hid hrv
    have HX := Lib.hid ((hx.alloc _).trans hx0)
    clear hrv hx hx0
    dsimp only
    go_wp2_with fail
    go_ret3
    exact ⟨_, _, _, rfl, HRV.out, HX.out⟩
  by_cases k1 : kd = 1
  · subst k1
    have hv : R = (Z1.1, 0, Z1.2) := by rw [HU.out, if_neg (by decide), if_pos rfl]
    clear HU
    subst hv
    go_wp2_with fail
    refine (H1.out _ (hx.alloc _)).mono ?_
    rintro e w1 ⟨A1, n1, c1, rfl, hrv, hx0⟩
    have HRV := Lib.hid hrv
    have HX := Lib.hid ((hx.alloc _).trans hx0)
    clear hrv hx hx0
    dsimp only
    go_wp2_with fail
    go_ret3
    exact ⟨_, _, _, rfl, HRV.out, HX.out⟩
  by_cases k2 : kd = 2
  · subst k2
    have hv : R = (Z2.1, 0, Z2.2) := by rw [HU.out, if_neg (by decide), if_neg (by decide), if_pos rfl]
    clear HU
    subst hv
    go_wp2_with fail
    refine (H2.out _ (hx.alloc _)).mono ?_
    rintro e w1 ⟨A1, n1, c1, rfl, hrv, hx0⟩
    have HRV := Lib.hid hrv
    have HX := Lib.hid ((hx.alloc _).trans hx0)
    clear hrv hx hx0
    dsimp only
    go_wp2_with fail
    go_ret3
    exact ⟨_, _, _, rfl, HRV.out, HX.out⟩
  by_cases k3 : kd = 3
  · subst k3
    have hv : R = (Z3.1, 0, Z3.2) := by rw [HU.out, if_neg (by decide), if_neg (by decide), if_neg (by decide), if_pos rfl]
    clear HU
    subst hv
    go_wp2_with fail
    refine (H3.out _ (hx.alloc _)).mono ?_
    rintro e w1 ⟨A1, n1, c1, rfl, hrv, hx0⟩
    have HRV := Lib.hid hrv
    have HX := Lib.hid ((hx.alloc _).trans hx0)
    clear hrv hx hx0
    dsimp only
    go_wp2_with fail
    go_ret3
    exact ⟨_, _, _, rfl, HRV.out, HX.out⟩
  have hv : R = (l, 0, 8) := by rw [HU.out, if_neg k0, if_neg k1, if_neg k2, if_neg k3]
  clear HU
  subst hv
  have j0 : (kd == 0) = false := by simpa using k0
  have j1 : (kd == 1) = false := by simpa using k1
  have j2 : (kd == 2) = false := by simpa using k2
  have j3 : (kd == 3) = false := by simpa using k3
  clear k0 k1 k2 k3
  have HX := Lib.hid hx
  go_wp2_with fail
  go_ret3
  exact ⟨_, _, _, rfl, HR.out.ext (HX.out.alloc _), HX.out.alloc _⟩
theorem act_fits {l : List Rv} {a : Vw.Ac} (hf : ∀ r ∈ l, r.Fits) (hl : l.length ≤ 8) (h0 : 0 ≤ a.kind ∧ a.kind ≤ 3) : (Vw.act l a).1.length ≤ 100 ∧ ∀ r ∈ (Vw.act l a).1, r.Fits := by
  by_cases he : (Vw.act l a).2.2 = 0
  · have hk : Vw.check (Vw.act l a).1 = 0 := by
      have hs : Vw.after l a = ((Vw.act l a).1, true) := by unfold Vw.after; rw [if_neg (by simpa using he)]
      have hc : Vw.check l = 0 := by
        unfold Vw.act at he
        split at he
        · unfold Vw.propose at he
          split at he
          · rename_i h1; exact (h1 he).elim
          · rename_i h1; simpa using h1
        split at he
        · unfold Vw.update at he
          split at he
          · rename_i h1; exact (h1 he).elim
          · rename_i h1; simpa using h1
        split at he
        · unfold Vw.addVote at he
          split at he
          · rename_i h1; exact (h1 he).elim
          · rename_i h1; simpa using h1
        split at he
        · unfold Vw.close at he
          split at he
          · rename_i h1; exact (h1 he).elim
          · rename_i h1; simpa using h1
        · cases he
      have := Vw.story hc a
      rw [hs] at this
      exact this.ok
    have := check_fits hk
    exact ⟨this.1, fun r hr => (this.2 r hr).1⟩
  · have hn : (Vw.act l a).1 = [] := by
      unfold Vw.act at he ⊢
      have hch : ∀ (n : Int) (f : Rv → Rv × Int), (Vw.changed l n f).2 ≠ 0 → (Vw.changed l n f).1 = [] := by
        intro n f h
        unfold Vw.changed at h ⊢
        split
        · rfl
        rename_i h1
        rw [if_neg h1] at h
        split
        · rfl
        rename_i r hr
        rw [hr] at h
        dsimp only at h ⊢
        split
        · rfl
        rename_i h2
        rw [if_neg h2] at h
        split
        · rfl
        rename_i h3
        rw [if_neg h3] at h
        exact (h rfl).elim
      split
      · rename_i k; rw [if_pos k] at he
        unfold Vw.propose at he ⊢
        repeat' split
        all_goals first | rfl | skip
        rename_i h1 h2 h3 h4 h5
        rw [if_neg h1, if_neg h2, if_neg h3, if_neg h4, if_neg h5] at he
        exact (he rfl).elim
      rename_i k0
      rw [if_neg k0] at he
      split
      · rename_i k; rw [if_pos k] at he
        unfold Vw.update at he ⊢
        split
        · rfl
        rename_i h1
        rw [if_neg h1] at he
        exact hch _ _ he
      rename_i k1
      rw [if_neg k1] at he
      split
      · rename_i k; rw [if_pos k] at he
        unfold Vw.addVote at he ⊢
        split
        · rfl
        rename_i h1
        rw [if_neg h1] at he
        split
        · rfl
        rename_i h2
        rw [if_neg h2] at he
        exact hch _ _ he
      rename_i k2
      rw [if_neg k2] at he
      split
      · rename_i k; rw [if_pos k] at he
        unfold Vw.close at he ⊢
        split
        · rfl
        rename_i h1
        rw [if_neg h1] at he
        split
        · rfl
        rename_i h2
        rw [if_neg h2] at he
        exact hch _ _ he
      rename_i k3
      omega
    rw [hn]
    exact ⟨Nat.zero_le _, fun r hr => by cases hr⟩
theorem great_false8 {l : List Rv} (h : Vw.great l = false) : l.length ≤ 8 ∧ ∀ r ∈ l, r.Fits := by
  unfold Vw.great at h
  simp only [Bool.or_eq_false_iff, decide_eq_false_iff_not, List.any_eq_false, Bool.not_eq_true] at h
  exact ⟨by omega, fun r hr => Rv.great_fits (h.1 r hr)⟩
set_option maxHeartbeats 16000000 in
set_option maxRecDepth 100000 in
theorem acts_walk (A : Option Addr) (n c : Nat) (l : List Rv) (cs : List Value) (a : Vw.Ac) (w : World) (hg : Glob w) (h : Rs w All A l) (hn : l.length = n) (hnc : n ≤ c) (hb : n ≤ 4611686018427387904) (hw : ∀ r ∈ l, r.Wide) (ha : ActR w All cs a) (haw : a.Wide) :
    Calls Tryz.prog 5 #[.slice A n c, .agg cs.toArray] w (Ret (.bool true) w) := by
  have HG := Lib.hid hg
  have HL := Lib.hid h
  have HN := Lib.hid hn
  have HGR : Hid (∀ W, Ext w W → Calls Tryz.prog 9 #[.slice A n c] W (Ret (.bool (Vw.great l)) W)) := Lib.hid fun W hW => great_any A n c l W (Rs.ext h hW) hn hb hw
  have HFI : Hid (∀ W, Ext w W → Calls Tryz.prog 26 #[.agg cs.toArray] W (Ret (.bool a.fine) W)) := Lib.hid fun W hW => fine_any cs a W (ActR.steadfast.ext ha hW) haw
  obtain ⟨gr, hgr⟩ : ∃ gr, gr = Vw.great l := ⟨_, rfl⟩
  rw [← hgr] at HGR
  have HE := Lib.hid hgr
  obtain ⟨fi, hfi⟩ : ∃ fi, fi = a.fine := ⟨_, rfl⟩
  rw [← hfi] at HFI
  have HE2 := Lib.hid hfi
  have HDO : Hid (n ≤ 8 → (∀ r ∈ l, r.Fits) → a.Fits → ∀ W, Ext w W → Calls Tryz.prog 27 #[.slice A n c, .agg cs.toArray] W (GivesN W (Vw.act l a))) := Lib.hid fun h8 hf hfa W hW => do_any A n c l cs a W (hg.ext hW) ⟨hn, hnc, Rs.ext h hW⟩ (by omega) hf (ActR.steadfast.ext ha hW) hfa
  have HWA : Hid (n ≤ 8 → (∀ r ∈ l, r.Fits) → a.Fits → ∀ W, Ext w W → Calls Tryz.prog 28 #[.slice A n c, .agg cs.toArray] W (GivesN W (Vw.act l a))) := Lib.hid fun h8 hf hfa W hW => want_any A n c l cs a W (hg.ext hW) ⟨hn, hnc, Rs.ext h hW⟩ (by omega) hf (ActR.steadfast.ext ha hW) hfa
  obtain ⟨A', n', m', X', p', q', rfl, _, _, _, _⟩ := ha
  clear h hn hg hw hgr hfi haw hnc
  generalize hkd : a.kind = kd at HFI HDO HWA
  have HKD := Lib.hid hkd
  clear hkd
  go_enter Tryz.func5, Tryz.ntmps5
  have hx := Ext.refl w
  go_wp2_with fail
  refine (HGR.out _ (hx.alloc _)).mono ?_
  rintro e w1 ⟨rfl, hx0⟩
  have HX := Lib.hid ((hx.alloc _).trans hx0)
  have HB := Lib.hid (Blk.ext hx0 (Blk.new' (w := w) (g := w.heap.size) (cs := #[.int .i64 kd, .int .i64 a.number, .string a.who, .string a.branch, .slice A' n' m', .string a.vote.who, .int .i64 a.vote.kind, .string a.vote.text, .slice X' p' q', .int .i64 a.need, .int .i64 a.state]) (t := 49) rfl))
  obtain ⟨hc0, hf0, hl0⟩ := HB.out.all
  clear hx hx0 HGR
  cases gr
  rotate_left
  · go_wp2_with fail
    refine (awake55_any _ (HG.out.ext HX.out)).mono ?_
    rintro e w9 ⟨rfl, hx0⟩
    have HX9 := Lib.hid (HX.out.trans hx0)
    clear hx0
    go_wp2_with fail
    go_ret
    exact Ret.mk rfl HX9.out
  have HGF := Lib.hid (great_false8 HE.out.symm)
  have hn8 : n ≤ 8 := by have := HGF.out.1; rw [HN.out] at this; exact this
  clear HE
  go_wp2_with fail
  refine (HFI.out _ HX.out).mono ?_
  rintro e w2 ⟨rfl, hx0⟩
  clear hc0 hf0 hl0
  replace HX := Lib.hid (HX.out.trans hx0)
  replace HB := Lib.hid (HB.out.ext hx0)
  clear hx0
  obtain ⟨hc0, hf0, hl0⟩ := HB.out.all
  cases fi
  · go_wp2_with fail
    refine (awake55_any _ (HG.out.ext HX.out)).mono ?_
    rintro e w9 ⟨rfl, hx0⟩
    have HX9 := Lib.hid (HX.out.trans hx0)
    clear hx0
    go_wp2_with fail
    go_ret
    exact Ret.mk rfl HX9.out
  have HAF := Lib.hid (Vw.Ac.fine_fits HE2.out.symm)
  clear HE2 HFI
  by_cases k0 : kd < 0
  · have j0 : decide (kd < 0) = true := decide_eq_true k0
    go_wp2_with fail
    refine (awake55_any _ (HG.out.ext HX.out)).mono ?_
    rintro e w9 ⟨rfl, hx0⟩
    have HX9 := Lib.hid (HX.out.trans hx0)
    clear hx0
    go_wp2_with fail
    go_ret
    exact Ret.mk rfl HX9.out
  have j0 : decide (kd < 0) = false := decide_eq_false k0
  by_cases k3 : 3 < kd
  · have j3 : decide (3 < kd) = true := decide_eq_true k3
    go_wp2_with fail
    refine (awake55_any _ (HG.out.ext HX.out)).mono ?_
    rintro e w9 ⟨rfl, hx0⟩
    have HX9 := Lib.hid (HX.out.trans hx0)
    clear hx0
    go_wp2_with fail
    go_ret
    exact Ret.mk rfl HX9.out
  have j3 : decide (3 < kd) = false := decide_eq_false k3
  have HF2 := Lib.hid (act_fits (a := a) HGF.out.2 HGF.out.1 (by have := HKD.out; omega))
  have HD2 := Lib.hid (HDO.out hn8 HGF.out.2 HAF.out)
  have HW2 := Lib.hid (HWA.out hn8 HGF.out.2 HAF.out)
  clear HDO HWA HGF HAF k0 k3
  generalize Vw.act l a = Z at HF2 HD2 HW2
  obtain ⟨z1, z2, z3⟩ := Z
  go_wp2_with fail
  refine (HD2.out _ HX.out).mono ?_
  rintro e w3 ⟨B1, n1, c1, rfl, hrv, hx0⟩
  have HR1 := Lib.hid hrv
  clear hrv
  clear hc0 hf0 hl0
  replace HX := Lib.hid (HX.out.trans hx0)
  replace HB := Lib.hid (HB.out.ext hx0)
  clear hx0
  obtain ⟨hc0, hf0, hl0⟩ := HB.out.all
  dsimp only
  go_wp2_with fail
  refine (HW2.out _ HX.out).mono ?_
  rintro e w4 ⟨B2, n2, c2, rfl, hrv, hx0⟩
  have HR2 := Lib.hid hrv
  replace HR1 := Lib.hid (HR1.out.ext hx0)
  clear hrv
  clear hc0 hf0 hl0
  replace HX := Lib.hid (HX.out.trans hx0)
  replace HB := Lib.hid (HB.out.ext hx0)
  clear hx0
  obtain ⟨hc0, hf0, hl0⟩ := HB.out.all
  dsimp only at HF2 HR1 HR2 ⊢
  go_wp2_with fail
  refine (sameall_true B1 B2 n1 c1 n2 c2 z1 _ HR1.out.reads HR2.out.reads HR1.out.len HR2.out.len (by have := HF2.out.1; rw [HR1.out.len] at this; omega) HF2.out.2).mono ?_
  rintro e w5 ⟨rfl, hx0⟩
  clear hc0 hf0 hl0 HR1 HR2
  replace HX := Lib.hid (HX.out.trans hx0)
  clear hx0
  go_wp2_with fail
  refine (awake55_any _ (HG.out.ext HX.out)).mono ?_
  rintro e w9 ⟨rfl, hx0⟩
  have HX9 := Lib.hid (HX.out.trans hx0)
  clear hx0
  go_wp2_with fail
  go_ret
  exact Ret.mk rfl HX9.out
end Go.Proofs.YtojfgidoobgcaaaGreatDoor
