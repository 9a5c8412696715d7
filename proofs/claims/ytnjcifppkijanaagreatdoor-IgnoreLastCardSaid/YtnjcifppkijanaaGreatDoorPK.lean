/- Walks: strings.SplitSeq at one byte: the pieces of a text, one after the other. Regions that draw their order, in a round's frame. (Printed out of XRange.) Over any program. Walks: ignore: a text is parsed into rules. -/
import Derived.Test.YtnjcifppkijanaaGreatDoorPH
import Derived.Test.YtnjcifppkijanaaGreatDoorPG
import Derived.Test.YtnjcifppkijanaaGreatDoorRange
import Derived.Test.YtnjcifppkijanaaGreatDoorHeld
import Derived.Test.YtnjcifppkijanaaGreatDoorMf
import Derived.Deep.RegionHeld3
import Derived.TacticsIn
import Derived.OrdersIn
import Derived.RangeFuncCalls
set_option linter.unusedSimpArgs false
set_option linter.unusedVariables false
namespace Go.Proofs.YtnjcifppkijanaaGreatDoor
open Go Go.RowKit Go.Shelf
attribute [local go_sem] Oper.semAt_some
namespace Ig
theorem L_ext (s : ByteArray) (i j : Nat) : L (s.extract i j) = ((L s).take j).drop i := Pa.L_extract s i j
theorem cut_at {t : ByteArray} {i : Nat} (h : Lib.indexByte t.data.toList 10 = i) : i < t.size ∧ cut 10 (L t) = L (t.extract 0 i) :: cut 10 (L (t.extract (i + 1) t.size)) := by
  obtain ⟨h1, h2⟩ := Lib.indexByte_some h
  obtain ⟨h3, h4⟩ := List.getElem?_eq_some_iff.1 h1
  have h3' : i < t.size := h3
  refine ⟨h3', ?_⟩
  have e1 : L t = (L t).take i ++ 10 :: (L t).drop (i + 1) := by
    conv => lhs; rw [← List.take_append_drop i (L t)]
    rw [List.drop_eq_getElem_cons h3, h4]
  have hn : (10 : UInt8) ∉ (L t).take i := fun hm => by
    obtain ⟨j, hj, e⟩ := List.mem_iff_getElem.1 hm
    rw [List.length_take] at hj
    rw [List.getElem_take] at e
    exact h2 j (by omega) (by show (L t)[j]? = _; rw [List.getElem?_eq_getElem (by omega), e])
  have e2 : L (t.extract 0 i) = (L t).take i := L_ext t 0 i
  have e3 : L (t.extract (i + 1) t.size) = (L t).drop (i + 1) := by
    rw [L_ext, List.take_of_length_le]
    exact Nat.le_refl _
  rw [e2, e3]
  conv => lhs; rw [e1]
  exact cut_app _ hn
theorem cut_last {t : ByteArray} (h : Lib.indexByte t.data.toList 10 = -1) : cut 10 (L t) = [L t] :=
  cut_none fun hm => by
    obtain ⟨j, hj, e⟩ := List.mem_iff_getElem.1 hm
    exact Lib.indexByte_none h j (by show (L t)[j]? = _; rw [List.getElem?_eq_getElem hj, e])
/-- What is left of a text behind k of its separators. -/
def rests (s : ByteArray) : Nat → ByteArray
  | 0 => s
  | k + 1 => (rests s k).extract ((Lib.indexByte (rests s k).data.toList 10).toNat + 1) (rests s k).size
theorem rests_cut (s : ByteArray) : ∀ {k : Nat}, k < (cut 10 (L s)).length → cut 10 (L (rests s k)) = (cut 10 (L s)).drop k
  | 0, _ => rfl
  | k + 1, h => by
    have ih := rests_cut s (k := k) (by omega)
    have hi := index_ge (rests s k).data.toList 10
    show cut 10 (L ((rests s k).extract ((Lib.indexByte (rests s k).data.toList 10).toNat + 1) (rests s k).size)) = _
    generalize rests s k = t at ih hi
    generalize hj : Lib.indexByte t.data.toList 10 = j at hi
    rcases (show j = -1 ∨ ∃ i : Nat, j = i from by
      rcases Int.lt_or_le j 0 with h1 | h1
      · exact .inl (by omega)
      · exact .inr ⟨j.toNat, by omega⟩) with rfl | ⟨i, rfl⟩
    · rw [cut_last hj] at ih
      have := congrArg List.length ih
      rw [List.length_drop] at this
      simp at this
      omega
    · rw [(cut_at hj).2] at ih
      rw [Int.toNat_natCast, ← List.drop_drop, ← ih]
      rfl
theorem rests_next {s t : ByteArray} {k i : Nat} (h : rests s k = t) (hj : Lib.indexByte t.data.toList 10 = i) : rests s (k + 1) = t.extract (i + 1) t.size := by
  show (rests s k).extract ((Lib.indexByte (rests s k).data.toList 10).toNat + 1) (rests s k).size = _
  rw [h, hj, Int.toNat_natCast]
theorem rests_size (s : ByteArray) : ∀ k, (rests s k).size ≤ s.size
  | 0 => Nat.le_refl _
  | k + 1 => by
    refine Nat.le_trans ?_ (rests_size s k)
    show ((rests s k).extract _ _).size ≤ _
    rw [ByteArray.size_extract]
    omega
/-- The string in a box. -/
def boxStr (z : Nat) (w : World) : Nat := match w.cell? ⟨z, 0, none⟩ with
  | some (.string t) => t.size
  | _ => 0
theorem boxStr_eq {z : Nat} {w : World} {t : TypeId} {s : ByteArray} (h : Blk w z t #[.string s]) : boxStr z w = s.size := by
  unfold boxStr
  rw [h.cell]
  rfl
end Ig
set_option maxHeartbeats 400000 in
theorem splitseq_same (s : ByteArray) (w : World) :
    Calls Tryz.prog 38 #[.string s, .string ⟨#[10]⟩] w fun e w' => e = .returned (.func (.func 87) #[] #[.pointer (some ⟨w.heap.size + 1, 0, none⟩), .pointer (some ⟨w.heap.size, 0, none⟩), .pointer (some ⟨w.heap.size + 1 + 1, 0, none⟩)]) ∧ ((w.alloc (.cells #[.string s] 9)).alloc (.cells #[.string ⟨#[10]⟩] 9)).alloc (.cells #[.int .i64 0] 3) = w' := by
  have hs : ∀ W, Calls Tryz.prog 67 #[.string s, .string ⟨#[10]⟩, .int .i64 0] W fun e w' => e = .returned (.func (.func 87) #[] #[.pointer (some ⟨W.heap.size + 1, 0, none⟩), .pointer (some ⟨W.heap.size, 0, none⟩), .pointer (some ⟨W.heap.size + 1 + 1, 0, none⟩)]) ∧ ((W.alloc (.cells #[.string s] 9)).alloc (.cells #[.string ⟨#[10]⟩] 9)).alloc (.cells #[.int .i64 0] 3) = w' := fun W => by
    go_enter Tryz.func67, Tryz.ntmps67
    go_wp2
    go_ret
    simp
  have HS := Lib.hid hs
  clear hs
  go_enter Tryz.func38, Tryz.ntmps38
  go_wp2_with fail
  refine (HS.out _).mono ?_
  rintro e w1 ⟨rfl, rfl⟩
  go_wp2_with fail
  go_ret
  simp
set_option maxHeartbeats 8000000 in
set_option maxRecDepth 100000 in
theorem split1_gives (n0 : Nat) (hn0 : 3 ≤ n0) (zs z zv : Nat) (s : ByteArray) (hs : s.size ≤ 1000000000) (N : Nat) (hN : (Ig.cut 10 (Ig.L s)).length = N) (C : Nat → World → Prop) (X : World → Prop)
    (hbox : ∀ k W, C k W → Blk W zs 9 #[.string ⟨#[10]⟩] ∧ Blk W zv 3 #[.int .i64 0]) (hset : ∀ k W v, C k W → C k (W.setCell ⟨z, 0, none⟩ v)) :
    RoundsV Tryz.prog n0 87 #[.pointer (some ⟨zs, 0, none⟩), .pointer (some ⟨z, 0, none⟩), .pointer (some ⟨zv, 0, none⟩)] (fun x : ByteArray => #[.string x])
      (fun k W => C k W ∧ (k < N → Blk W z 9 #[.string (Ig.rests s k)])) (fun k x W => C k W ∧ Blk W z 9 #[.string (Ig.rests s k)] ∧ (Ig.cut 10 (Ig.L s))[k]? = some (Ig.L x)) (fun k x W => C (k + 1) W ∧ Blk W z 9 #[.string (Ig.rests s k)]) X N := by
  intro l' T Tx W hT hTx hY h0 hT0
  have HY := Lib.hid hY
  have HB := Lib.hid hbox
  have HSE := Lib.hid hset
  have hNp : 0 < N := by rw [← hN]; exact List.length_pos_iff.2 (Ig.cut_ne 10 _)
  have H0 := Lib.hid h0.1
  have HZ0 := Lib.hid (h0.2 hNp)
  have HT0 := Lib.hid hT0
  have HTK := Lib.hid hT
  have HN := Lib.hid hN
  have HIX : Hid (∀ (t : ByteArray) W, Calls Tryz.prog 52 #[.string t, .string ⟨#[10]⟩] W (Same (.int .i64 (Lib.indexByte t.data.toList 10)) W)) := Lib.hid fun t W => Tryz.strings_Index_one t 10 W
  obtain ⟨hb1, -⟩ := hbox 0 W h0.1
  have hc0 := hb1.cell
  have hl0 := hb1.lt
  clear hY hT hTx h0 hT0 hbox hset hN hb1
  refine callsIn_of_wp Tryz.func87 rfl trivial ?_ rfl
  simp only [Tryz.ntmps87, List.size_toArray, List.length_cons, List.length_nil, Nat.reduceAdd, Nat.reduceSub, Array.replicate_succ, Array.replicate_zero, List.push_toArray, List.append_toArray, List.nil_append, List.cons_append]
  gi_wp2
  clear hc0 hl0
  gi_loopw [7] (fun _ wr => ∃ k : Nat, k < N ∧ Hid (C k wr) ∧ Hid (Blk wr z 9 #[.string (Ig.rests s k)]) ∧ Hid (T wr)) (fun _ wr => Ig.boxStr z wr)
  case atStart => exact ⟨0, hNp, H0, HZ0, HT0⟩
  case round =>
    clear H0 HT0 HZ0
    obtain ⟨k, hk, HC, HZ, HT⟩ := hrel
    obtain ⟨hbs, hbv⟩ := HB.out _ _ HC.out
    have hcut := Ig.rests_cut s (k := k) (by rw [HN.out]; exact hk)
    obtain ⟨t, ht⟩ : ∃ t, t = Ig.rests s k := ⟨_, rfl⟩
    rw [← ht] at HZ hcut
    have HTE := Lib.hid ht
    have HCU := Lib.hid hcut
    have hms := Ig.boxStr_eq HZ.out
    have hcs := hbs.cell
    have hfs := hbs.frozen
    have hcv := hbv.cell
    have hcz := HZ.out.cell
    have hfz := HZ.out.frozen
    have hlz := HZ.out.lt
    clear ht hcut hbs hbv
    gi_wp2
    refine ⟨trivial, fun _ => (by omega), ?_⟩
    refine (callsIn_wide.2 (HIX.out t wr)).mono ?_
    rintro e w1 ⟨rfl, rfl⟩
    have hge := index_ge t.data.toList 10
    generalize hj : Lib.indexByte t.data.toList 10 = j at hge
    have HJ := Lib.hid hj
    clear hj
    have hgt : j = -1 ∨ ∃ i : Nat, j = i := by
      rcases Int.lt_or_le j 0 with h1 | h1
      · exact .inl (by omega)
      · exact .inr ⟨j.toNat, by omega⟩
    clear hge
    rcases hgt with rfl | ⟨i, rfl⟩
    · have hlast : (Ig.cut 10 (Ig.L s))[k]? = some (Ig.L t) ∧ k + 1 = N := by
        have h1 := HCU.out
        rw [Ig.cut_last HJ.out] at h1
        constructor
        · have := congrArg (fun l => l[0]?) h1
          simpa using this.symm
        · have := congrArg List.length h1
          rw [List.length_drop, HN.out] at this
          simp at this
          omega
      obtain ⟨hl1, rfl⟩ := hlast
      obtain ⟨fn, tmps, assign, body, hy, hR⟩ := HY.out k t w1 ⟨HC.out, by rw [← HTE.out]; exact HZ.out, hl1⟩ HT.out
      have HR := Lib.hid hR
      clear hR hl1
      gi_wp2
      refine ⟨fun _ => (by omega), HR.out.mono ?_⟩
      rintro e W4 (⟨rfl, hJ, hT4⟩ | ⟨rfl, hX4, hTx4⟩)
      · have HE := Lib.hid (⟨hJ.1, hT4⟩ : _ ∧ _)
        clear hJ hT4 HR hcs hfs hcv hcz hfz hlz hy
        gi_wp2
        go_end0
        exact ⟨⟨_, rfl⟩, .inl ⟨⟨HE.out.1, fun h => absurd h (Nat.lt_irrefl _)⟩, HE.out.2⟩⟩
      · have HE := Lib.hid (⟨hX4, hTx4⟩ : _ ∧ _)
        clear hX4 hTx4 HR hcs hfs hcv hcz hfz hlz hy
        gi_wp2
        go_end0
        exact ⟨⟨_, rfl⟩, .inr HE.out⟩
    · obtain ⟨hit, hce⟩ := Ig.cut_at HJ.out
      have hts : t.size ≤ 1000000000 := by rw [HTE.out]; exact Nat.le_trans (Ig.rests_size s k) hs
      have hk1 : (Ig.cut 10 (Ig.L s))[k]? = some (Ig.L (t.extract 0 i)) ∧ k + 1 < N := by
        have h1 := HCU.out
        rw [hce] at h1
        constructor
        · have := congrArg (fun l => l[0]?) h1
          simpa using this.symm
        · have h2 := congrArg List.length h1
          rw [List.length_drop, HN.out, List.length_cons] at h2
          have := List.length_pos_iff.2 (Ig.cut_ne 10 (Ig.L (t.extract (i + 1) t.size)))
          omega
      obtain ⟨hl1, hk2⟩ := hk1
      obtain ⟨fn, tmps, assign, body, hy, hR⟩ := HY.out k (t.extract 0 i) w1 ⟨HC.out, by rw [← HTE.out]; exact HZ.out, hl1⟩ HT.out
      have HR := Lib.hid hR
      have HNX := Lib.hid (Ig.rests_next HTE.out.symm HJ.out)
      have y0 : IntKind.i64.wrap (i : Int) = (i : Int) := IntWalk.i64_in _ (by omega)
      have y1 : IntKind.i64.wrap ((i : Int) + 1) = (i : Int) + 1 := IntWalk.i64_in _ (by omega)
      have y2 : (i : Int) ≤ t.size := by omega
      have y3 : (i : Int) + 1 ≤ t.size := by omega
      have y4 : ((i : Int) + 1).toNat = i + 1 := by omega
      have y5 : (0 : Int) ≤ (i : Int) + 1 := by omega
      have y6 : ¬ ((i : Int) < 0) := by omega
      clear hR hl1 hce
      gi_wp2
      refine ⟨fun _ => (by omega), HR.out.mono ?_⟩
      rintro e W4 (⟨rfl, ⟨hC4, hZ4⟩, hT4⟩ | ⟨rfl, hX4, hTx4⟩)
      · rw [← HTE.out] at hZ4
        obtain ⟨b4, -⟩ := HB.out _ _ hC4
        have hcs4 := b4.cell
        have hfs4 := b4.frozen
        obtain ⟨hcz4, hfz4, hlz4⟩ := hZ4.all
        have HC5 := Lib.hid (HSE.out _ _ (.string (t.extract (i + 1) t.size)) hC4)
        have HT5 := Lib.hid (HTK.out _ _ (KeepsOthers.setCell W4 ⟨z, 0, none⟩ (.string (t.extract (i + 1) t.size))) hT4)
        have HZ5 : Hid (Blk (W4.setCell ⟨z, 0, none⟩ (.string (t.extract (i + 1) t.size))) z 9 #[.string (t.extract (i + 1) t.size)]) := Lib.hid (Blk.conv (hZ4.set_ 0 (.string (t.extract (i + 1) t.size))) (by simp))
        have hms5 := Ig.boxStr_eq HZ5.out
        clear hC4 hZ4 hT4 b4 HR hcs hfs hcv hcz hfz hlz hy
        gi_wp2
        go_roundw
        case rel => exact ⟨k + 1, hk2, HC5, Lib.hid (by rw [HNX.out]; exact HZ5.out), HT5⟩
        case measure => rw [hms, hms5, ByteArray.size_extract]; omega
      · have HE := Lib.hid (⟨hX4, hTx4⟩ : _ ∧ _)
        clear hX4 hTx4 HR hcs hfs hcv hcz hfz hlz hy
        gi_wp2
        refine bodyPost_ret (results_none rfl _ _ _) rfl ?_
        exact ⟨⟨_, rfl⟩, .inr HE.out⟩
end Go.Proofs.YtnjcifppkijanaaGreatDoor
namespace Go.Proofs.YtnjcifppkijanaaGreatDoor
open Go Go.RowKit
variable {P : Program}
section
variable {ops : Array Oper} {Q : Exit → Act → World → Prop}
/-- In a round's frame an operation is carried out as everywhere. -/
theorem wpIn_of_wp {o : Oper} {a : Act} {w : World} {K : Act → World → Prop} {l n : Nat} (hd : ∀ c, o.op ≠ .defer c) (h : o.wp P a w K Q) : o.wpIn (Fence.wide.inRound l) n P a w K Q := by
  refine ⟨fun _ _ => trivial, ?_⟩
  rw [show (Fence.wide.inRound l).round = some l from rfl, Oper.semAt_some _ _ _ hd]
  unfold Oper.wp at h
  generalize (execOp a.eval o).run P w = r at h ⊢
  cases r with
  | ok x w' =>
    cases x
    case value v => exact h
    case skip => exact h
    case defer d => exact h
    case enter f args => exact ⟨(nomatch ·), CallsIn.inRound l (callsIn_wide.2 h)⟩
    case row r args => exact ⟨(nomatch ·), fun c cs _ => (by
      obtain ⟨v, w', hr, hs⟩ := h c cs
      exact ⟨v, w', hr, stepsIn_wide.2 hs⟩)⟩
    all_goals exact (h : False).elim
  | halt x w' => cases x <;> exact h
theorem wpOpIn_of_wpOp {i : Nat} {K K' : Act → World → Prop} {a : Act} {w : World} {l n : Nat} (hd : ∀ o, ops[i]? = some o → ∀ c, o.op ≠ .defer c) (hQ : ¬ LetsOut Q) (hK : ∀ a w, K a w → K' a w) (h : wpOp P ops Q i K a w) : wpOpIn (Fence.wide.inRound l) n P ops Q i K' a w := by
  unfold wpOp at h
  unfold wpOpIn
  cases ho : ops[i]? with
  | none =>
    rw [ho] at h
    exact hK _ _ h
  | some o =>
    rw [ho] at h
    dsimp only at h ⊢
    split
    · rename_i hw
      rw [if_pos hw] at h
      rcases h with h | ⟨_, h⟩
      · exact Oper.wpIn_mono hK (wpIn_of_wp (hd o ho) h)
      · exact (hQ h).elim
    · rename_i hw
      rw [if_neg hw] at h
      exact ⟨fun _ _ => trivial, hK _ _ h⟩
theorem wpAnyIn_of_wpAny {md : Region.Mode} {l n : Nat} (hd : ∀ (i : Nat) (o : Oper), ops[i]? = some o → ∀ c, o.op ≠ .defer c) (hQ : ¬ LetsOut Q) : ∀ (fuel : Nat) (listed : Array Bool) (a : Act) (w : World), wpAny P md ops Q fuel listed a w → wpAnyIn (Fence.wide.inRound l) n P md ops Q fuel listed a w
  | 0, _, _, _, h => h
  | fuel + 1, _, _, _, h => ⟨h.1, fun i hi => wpOpIn_of_wpOp (hd i) hQ (fun a w h => wpAnyIn_of_wpAny hd hQ fuel _ a w h) (h.2 i hi)⟩
/-- A region that draws its order, in a round's frame. -/
theorem wpIn_region_held {id : Nat} {l n : Nat} {S : World → Prop} {a : Act} {w : World} (hm : P.follows .mixedOrders = true) (hd : ∀ (i : Nat) (o : Oper), ops[i]? = some o → ∀ c, o.op ≠ .defer c) (hQ : ¬ LetsOut Q) (hS : S w.drew)
    (h : S w.drew → wpAnyH P .any ops (NoPanic Q) S ops.size (Array.replicate ops.size false) a w.drew) : (Code.region id ops true).wpIn (Fence.wide.inRound l) n P Q a w :=
  wpIn_mono (Q := NoPanic Q) (wpIn_region_any hm (wpAnyIn_of_wpAny (Q := NoPanic Q) hd (fun h => hQ (let ⟨a, w, h⟩ := h; ⟨a, w, h⟩)) _ _ _ _ (wpAny_of_held _ _ _ _ (h hS)))) NoPanic.imp
end

/-- No operation defers. -/
def noDefer (ops : Array Oper) : Bool := ops.all fun o => match o.op with | .defer _ => false | _ => true
theorem noDefer_spec {ops : Array Oper} (h : noDefer ops = true) : ∀ (i : Nat) (o : Oper), ops[i]? = some o → ∀ c, o.op ≠ .defer c := fun i o hi c e => by
  have := Array.all_eq_true_iff_forall_mem.1 h o (Array.mem_of_getElem? hi)
  rw [e] at this
  cases this
end Go.Proofs.YtnjcifppkijanaaGreatDoor
namespace Go.Proofs.YtnjcifppkijanaaGreatDoor
open Go Go.RowKit Go.Shelf
attribute [local go_sem] Oper.semAt_some
namespace Ig
theorem parse_skip {ls : List (List UInt8)} {k : Nat} {x : List UInt8} {out : List Ru} (h : ls[k]? = some x) (hx : x = [] ∨ x.head? = some 35) : parseTo (ls.drop k) k out = parseTo (ls.drop (k + 1)) (k + 1) out := by
  obtain ⟨h1, h2⟩ := List.getElem?_eq_some_iff.1 h
  rw [List.drop_eq_getElem_cons h1, h2]
  exact if_pos hx
theorem parse_err {ls : List (List UInt8)} {k : Nat} {x : List UInt8} {out : List Ru} (h : ls[k]? = some x) (hx : ¬ (x = [] ∨ x.head? = some 35)) (he : lineErr (rule x) out.length ≠ 0) : parseTo (ls.drop k) k out = ([], (k : Int) + 1, lineErr (rule x) out.length) := by
  obtain ⟨h1, h2⟩ := List.getElem?_eq_some_iff.1 h
  rw [List.drop_eq_getElem_cons h1, h2]
  show (if _ then _ else if _ then _ else _) = _
  rw [if_neg hx, if_pos he]
theorem parse_rule {ls : List (List UInt8)} {k : Nat} {x : List UInt8} {out : List Ru} (h : ls[k]? = some x) (hx : ¬ (x = [] ∨ x.head? = some 35)) (he : lineErr (rule x) out.length = 0) : parseTo (ls.drop k) k out = parseTo (ls.drop (k + 1)) (k + 1) (out ++ [rule x]) := by
  obtain ⟨h1, h2⟩ := List.getElem?_eq_some_iff.1 h
  rw [List.drop_eq_getElem_cons h1, h2]
  show (if _ then _ else if _ then _ else _) = _
  rw [if_neg hx, if_neg (by simp [he])]
theorem cut_len_le {c : UInt8} : ∀ (s l : List UInt8), l ∈ cut c s → l.length ≤ s.length
  | [], l, h => by
    obtain rfl : l = [] := by simpa [cut] using h
    exact Nat.le_refl _
  | x :: s, l, h => by
    have ih := cut_len_le (c := c) s
    by_cases e : x = c
    · subst e
      rw [cut_hit] at h
      rcases List.mem_cons.1 h with rfl | h
      · exact Nat.zero_le _
      · exact Nat.le_succ_of_le (ih l h)
    · rw [cut_miss e] at h
      cases hc : cut c s with
      | nil => exact absurd hc (cut_ne c s)
      | cons a r =>
        rw [hc] at h ih
        rcases List.mem_cons.1 h with rfl | h
        · have := ih a (List.mem_cons_self ..)
          simp; omega
        · exact Nat.le_succ_of_le (ih l (List.mem_cons_of_mem _ h))
end Ig
theorem ruInfo : ∃ i z, Tryz.prog.info? 60 = some i ∧ i.zero = some z ∧ i.size = 4 ∧ i.bytes = 24 ∧ z.cells.size = 4 := by
  have h : (Tryz.prog.info? 60).map (fun i => (i.zero.map (·.cells.size), i.size, i.bytes)) = some (some 4, 4, 24) := by kernel_rfl
  cases hi : Tryz.prog.info? 60 with
  | none => rw [hi] at h; cases h
  | some i =>
    rw [hi] at h
    simp only [Option.map_some, Option.some.injEq, Prod.mk.injEq] at h
    obtain ⟨h1, h2, h3⟩ := h
    cases hz : i.zero with
    | none => rw [hz] at h1; cases h1
    | some z => exact ⟨i, z, rfl, hz, h2, h3, by rw [hz] at h1; simpa using h1⟩
theorem RuR.one {w : World} {F : Nat → Prop} {c : List Value} {f : Ig.Ru} (h : RuR w F c f) : ∀ u ∈ c, Value.oneCell' u = true := by
  obtain rfl : c = _ := h
  intro u hu
  simp at hu
  rcases hu with rfl | rfl | rfl | rfl <;> rfl
/-- The parser's blocks. -/
structure PB (w : World) (v : Value) (out : List Ig.Ru) (nn : Int) (W : World) : Prop where
  b2 : Blk W w.heap.size 23 #[.slice none 0 0]
  b3 : Blk W (w.heap.size + 1) 3 #[.int .i64 0]
  b4 : Blk W (w.heap.size + 1 + 1) 24 #[.int .i64 0]
  b5 : Blk W (w.heap.size + 1 + 1 + 1) 23 #[v]
  b6 : Blk W (w.heap.size + 1 + 1 + 1 + 1) 3 #[.int .i64 nn]
  bs : Blk W (w.heap.size + 1 + 1 + 1 + 1 + 1 + 1) 9 #[.string ⟨#[10]⟩]
  bv : Blk W (w.heap.size + 1 + 1 + 1 + 1 + 1 + 1 + 1) 3 #[.int .i64 0]
  own : OwnW 4 RuR 60 w W (w.heap.size + 8) All v out
  ext : Ext w W
section
variable {w : World} {v : Value} {out : List Ig.Ru} {nn : Int} {W W' : World}
theorem PB.into (h : PB w v out nn W) (hx : Ext W W') : PB w v out nn W' := ⟨Blk.ext hx h.b2, Blk.ext hx h.b3, Blk.ext hx h.b4, Blk.ext hx h.b5, Blk.ext hx h.b6, Blk.ext hx h.bs, Blk.ext hx h.bv, h.own.ext hx, h.ext.trans hx⟩
theorem PB.turned (h : PB w v out nn W) {B : Nat} (hB : w.heap.size ≤ B) {row : Option Nat} (hg : W.grownBy W' row) (hr : ∀ r, row = some r → B ≤ r ∧ ∃ o : Obj, W.heap[r]? = some o ∧ o.isCells = false) : PB w v out nn W' := by
  have ht : Turned W W' := ⟨row, hg, fun r e => (hr r e).2⟩
  exact ⟨h.b2.turned ht, h.b3.turned ht, h.b4.turned ht, h.b5.turned ht, h.b6.turned ht, h.bs.turned ht, h.bv.turned ht, h.own.turned ht, Ext.steadyV w hB W W' row h.ext hg hr⟩
theorem PB.setZ (h : PB w v out nn W) (u : Value) : PB w v out nn (W.setCell ⟨w.heap.size + 1 + 1 + 1 + 1 + 1, 0, none⟩ u) :=
  ⟨h.b2.far (by show w.heap.size ≠ w.heap.size + 1 + 1 + 1 + 1 + 1; omega) u, h.b3.far (by simp <;> omega) u, h.b4.far (by simp <;> omega) u, h.b5.far (by simp <;> omega) u, h.b6.far (by simp <;> omega) u, h.bs.far (by simp <;> omega) u, h.bv.far (by simp <;> omega) u, h.own.kept (grownBy_setCell' _ _ _) (fun b e => by cases e; omega), Ext.setCell (p := ⟨w.heap.size + 1 + 1 + 1 + 1 + 1, 0, none⟩) h.ext (by show w.heap.size ≤ w.heap.size + 1 + 1 + 1 + 1 + 1; omega) u⟩
theorem PB.setN (h : PB w v out nn W) (m : Int) : PB w v out m (W.setCell ⟨w.heap.size + 1 + 1 + 1 + 1, 0, none⟩ (.int .i64 m)) :=
  ⟨h.b2.far (by show w.heap.size ≠ w.heap.size + 1 + 1 + 1 + 1; omega) _, h.b3.far (by simp <;> omega) _, h.b4.far (by simp <;> omega) _, h.b5.far (by simp <;> omega) _, Blk.conv (h.b6.set_ 0 (.int .i64 m)) (by simp), h.bs.far (by simp <;> omega) _, h.bv.far (by simp <;> omega) _, h.own.kept (grownBy_setCell' _ _ _) (fun b e => by cases e; omega), Ext.setCell (p := ⟨w.heap.size + 1 + 1 + 1 + 1, 0, none⟩) h.ext (by show w.heap.size ≤ w.heap.size + 1 + 1 + 1 + 1; omega) _⟩
end
theorem PB.grown {w : World} {v : Value} {out : List Ig.Ru} {nn : Int} {V W' : World} (h : PB w v out nn V) (hg : V.grownBy W' v.ownBlock) {g : Nat} {t : TypeId} {cs : Array Value} (hB : Blk V g t cs) (hl : g < w.heap.size + 1 + 1 + 1 + 1 + 1 + 1 + 1 + 1) : Blk W' g t cs :=
  (hg.block g hB.lt (fun e => by have := (h.own.block e.symm).1; omega)).trans hB
theorem PB.app {w : World} {v v' : Value} {out out' : List Ig.Ru} {nn : Int} {V W' : World} (h : PB w v out nn V) (hg : V.grownBy W' v.ownBlock) (ho : OwnW 4 RuR 60 w W' (w.heap.size + 1 + 1 + 1 + 1 + 1 + 1 + 1 + 1) All v' out') : PB w v' out' nn (W'.setCell ⟨w.heap.size + 1 + 1 + 1, 0, none⟩ v') :=
  ⟨(h.grown hg h.b2 (by omega)).far (by show w.heap.size ≠ w.heap.size + 1 + 1 + 1; omega) _, (h.grown hg h.b3 (by omega)).far (by simp <;> omega) _, (h.grown hg h.b4 (by omega)).far (by simp <;> omega) _, Blk.conv ((h.grown hg h.b5 (by omega)).set_ 0 v') (by simp), (h.grown hg h.b6 (by omega)).far (by simp <;> omega) _, (h.grown hg h.bs (by omega)).far (by simp <;> omega) _, (h.grown hg h.bv (by omega)).far (by simp <;> omega) _, ho.kept (grownBy_setCell' _ _ _) (fun b e => by cases e; omega), Ext.setCell (p := ⟨w.heap.size + 1 + 1 + 1, 0, none⟩) (Below.grown h.ext hg h.ext.size_le (fun j e => by have := (h.own.block e).1; omega)) (by show w.heap.size ≤ w.heap.size + 1 + 1 + 1; omega) _⟩
/-- Between two lines. -/
def PC (w : World) (s : ByteArray) (k : Nat) (W : World) : Prop := ∃ v out, PB w v out k W ∧ Ig.parse (Ig.L s) = Ig.parseTo ((Ig.cut 10 (Ig.L s)).drop k) k out ∧ out.length ≤ 100
/-- Where a line is bad. -/
def PX (w : World) (s : ByteArray) (W : World) : Prop := ∃ n e : Int, Ig.parse (Ig.L s) = ([], n, e) ∧ Blk W w.heap.size 23 #[.slice none 0 0] ∧ Blk W (w.heap.size + 1) 3 #[.int .i64 n] ∧ Blk W (w.heap.size + 1 + 1) 24 #[.int .i64 e] ∧ Ext w W
/-- What Parse hands back. -/
def ParseF (r : List Ig.Ru × Int × Int) (w : World) (e : Ending) (w' : World) : Prop := ∃ A n c, e = .returned (.tuple #[.slice A n c, .int .i64 r.2.1, .int .i64 r.2.2]) ∧ r.1.length = n ∧ n ≤ c ∧ Rus w' All A r.1 ∧ Hi w.heap.size A ∧ Ext w w'
theorem PC.steady {w : World} {s : ByteArray} {B : Nat} (hB : w.heap.size ≤ B) (k : Nat) : Steady B (PC w s k) := fun W W' row ⟨v, out, h1, h2, h3⟩ hg hr => ⟨v, out, h1.turned hB hg hr, h2, h3⟩
theorem PX.steady {w : World} {s : ByteArray} {B : Nat} (hB : w.heap.size ≤ B) : Steady B (PX w s) := fun W W' row ⟨n, e, h0, h1, h2, h3, h4⟩ hg hr => by
  have ht : Turned W W' := ⟨row, hg, fun r e => (hr r e).2⟩
  exact ⟨n, e, h0, h1.turned ht, h2.turned ht, h3.turned ht, Ext.steadyV w hB W W' row h4 hg hr⟩
theorem blk_steady {g B : Nat} {t : TypeId} {cs : Array Value} : Steady B (fun W => Blk W g t cs) := fun W W' row h hg hr => h.turned ⟨row, hg, fun r e => (hr r e).2⟩
set_option maxHeartbeats 16000000 in
set_option maxRecDepth 100000 in
theorem iparse_in (n0 : Nat) (hn0 : 9 ≤ n0) (s : ByteArray) (w : World) (hs : s.size ≤ 1000000000) (hgl : Glob w) :
    CallsIn Fence.wide n0 Tryz.prog 12 #[.string s] w (ParseF (Ig.parse (Ig.L s)) w) := by
  obtain ⟨N, hN⟩ : ∃ N, N = (Ig.cut 10 (Ig.L s)).length := ⟨_, rfl⟩
  have hNs : N ≤ 1000000001 := by
    rw [hN, Ig.cut_length]
    have : (Ig.L s).count 10 ≤ (Ig.L s).length := List.count_le_length
    have h2 : (Ig.L s).length = s.size := rfl
    omega
  have HN := Lib.hid hN
  have HG := Lib.hid hgl
  have HGV := Lib.hid (fun n1 (h1 : 3 ≤ n1) => split1_gives n1 h1 (w.heap.size + 1 + 1 + 1 + 1 + 1 + 1) (w.heap.size + 1 + 1 + 1 + 1 + 1) (w.heap.size + 1 + 1 + 1 + 1 + 1 + 1 + 1) s hs N hN.symm (PC w s) (PX w s) (fun k W ⟨v, out, h, _⟩ => ⟨h.bs, h.bv⟩) (fun k W u ⟨v, out, h, h2⟩ => ⟨v, out, h.setZ u, h2⟩))
  have HSP : Hid (∀ W, Calls Tryz.prog 38 #[.string s, .string ⟨#[10]⟩] W _) := Lib.hid (fun W => splitseq_same s W)
  clear hN hgl
  refine callsIn_of_wp_marks Tryz.func12 rfl trivial ?_ rfl
  simp only [Tryz.ntmps12, List.size_toArray, List.length_cons, List.length_nil, Nat.reduceAdd, Nat.reduceSub, Array.replicate_succ, Array.replicate_zero, List.push_toArray, List.append_toArray, List.nil_append, List.cons_append]
  gi_wp2_with fail
  refine ⟨trivial, fun _ => (by omega), ?_⟩
  refine (callsIn_wide.2 (HSP.out _)).mono ?_
  rintro e w1 ⟨rfl, rfl⟩
  gi_wp2_with fail
  have HI0 : Hid (PC w s 0 ((((((((w.alloc (.cells #[.slice none 0 0] 23)).alloc (.cells #[.int .i64 0] 3)).alloc (.cells #[.int .i64 0] 24)).alloc (.cells #[.slice none 0 0] 23)).alloc (.cells #[.int .i64 0] 3)).alloc (.cells #[.string s] 9)).alloc (.cells #[.string ⟨#[10]⟩] 9)).alloc (.cells #[.int .i64 0] 3)) ∧ (0 < N → Blk ((((((((w.alloc (.cells #[.slice none 0 0] 23)).alloc (.cells #[.int .i64 0] 3)).alloc (.cells #[.int .i64 0] 24)).alloc (.cells #[.slice none 0 0] 23)).alloc (.cells #[.int .i64 0] 3)).alloc (.cells #[.string s] 9)).alloc (.cells #[.string ⟨#[10]⟩] 9)).alloc (.cells #[.int .i64 0] 3)) (w.heap.size + 1 + 1 + 1 + 1 + 1) 9 #[.string (Ig.rests s 0)])) := Lib.hid (by
    refine ⟨⟨.slice none 0 0, [], ⟨?_, ?_, ?_, ?_, ?_, ?_, ?_, OwnW.nil _ _ _ _ _ _ _, ?_⟩, rfl, Nat.zero_le _⟩, fun _ => ?_⟩
    case refine_8 => exact ((((((((Ext.refl w).alloc _).alloc _).alloc _).alloc _).alloc _).alloc _).alloc _).alloc _
    all_goals repeat (first | (refine Blk.new' ?_; (first | rfl | (simp; done))) | refine Blk.alloc ?_ _))
  refine wpIn_range_leaveH (gf := 87) (lb := #[.pointer (some ⟨w.heap.size + 1 + 1 + 1 + 1 + 1 + 1, 0, none⟩), .pointer (some ⟨w.heap.size + 1 + 1 + 1 + 1 + 1, 0, none⟩), .pointer (some ⟨w.heap.size + 1 + 1 + 1 + 1 + 1 + 1 + 1, 0, none⟩)]) rfl (enters_of Tryz.func87 (by kernel_rfl) rfl) (encs := fun x : ByteArray => #[.string x]) (HGV.out (n0 - 1) (by omega)) (fun _ => rfl)
    (fun k x a' W => PC w s k W ∧ Blk W (w.heap.size + 1 + 1 + 1 + 1 + 1) 9 #[.string (Ig.rests s k)] ∧ (Ig.cut 10 (Ig.L s))[k]? = some (Ig.L x) ∧ a' = { tmps := #[.string s, undef, .pointer (some ⟨w.heap.size, 0, none⟩), .pointer (some ⟨w.heap.size + 1, 0, none⟩), .pointer (some ⟨w.heap.size + 1 + 1, 0, none⟩), .pointer (some ⟨w.heap.size + 1 + 1 + 1, 0, none⟩), .pointer (some ⟨w.heap.size + 1 + 1 + 1 + 1, 0, none⟩), .string x, undef, undef, .string s, .func (.func 87) #[] #[.pointer (some ⟨w.heap.size + 1 + 1 + 1 + 1 + 1 + 1, 0, none⟩), .pointer (some ⟨w.heap.size + 1 + 1 + 1 + 1 + 1, 0, none⟩), .pointer (some ⟨w.heap.size + 1 + 1 + 1 + 1 + 1 + 1 + 1, 0, none⟩)], .string x, undef, undef, undef, undef, undef, undef, undef, undef, undef, undef, undef, undef, undef, undef, undef, undef, undef, undef, undef, undef, undef, undef, undef, undef, undef, undef, undef, undef, undef, undef, undef, undef, undef, undef], defers := [] })
    (fun k => (PC.steady (by simp; omega) k).and ?stI) ?stA (fun k x => (PC.steady (by simp; omega) (k + 1)).and blk_steady) (PX.steady (by simp; omega)) HI0.out ?assign ?body ?done ?stop
  case stI => exact fun W W' row h hg hr hk => blk_steady (B := 0) W W' row (h hk) hg (fun r e => ⟨Nat.zero_le _, (hr r e).2⟩)
  case stA =>
    rintro k x a' W W' row ⟨h1, h2, h3, h4⟩ hg hr
    exact ⟨PC.steady (B := (w.heap.size)) (Nat.le_refl _) k W W' row h1 hg (fun r e => ⟨by have := (hr r e).1; simp at this; omega, (hr r e).2⟩), blk_steady (B := 0) W W' row h2 hg (fun r e => ⟨Nat.zero_le _, (hr r e).2⟩), h3, h4⟩
  case assign =>
    rintro l' k x W K ⟨hA, hz, hx1⟩ hK
    have HA := Lib.hid (⟨hA, hz, hx1⟩ : _ ∧ _ ∧ _)
    have HK := Lib.hid hK
    clear hA hK HGV HI0 hx1 hz
    gi_wp2
    exact HK.out _ _ (KeepsOthers.refl W) ⟨HA.out.1, HA.out.2.1, HA.out.2.2, rfl⟩
  case body =>
    rintro l' k x a' W - - ⟨hA, hz, hx1, rfl⟩
    clear HGV HI0
    obtain ⟨v, out, hpb, hpe, hol⟩ := hA
    have hkN : k < N := by rw [HN.out]; exact (List.getElem?_eq_some_iff.1 hx1).1
    have HX1 := Lib.hid hx1
    have HPE := Lib.hid hpe
    have HOL := Lib.hid hol
    have hxs : x.size ≤ 1000000000 := Nat.le_trans (Ig.cut_len_le _ _ (List.mem_of_getElem? hx1)) hs
    have y1 : IntKind.i64.wrap ((k : Int) + 1) = (k : Int) + 1 := IntWalk.i64_in _ (by omega)
    have HKO : Hid (KeepsOthers W (W.setCell ⟨w.heap.size + 1 + 1 + 1 + 1, 0, none⟩ (.int .i64 ((k : Int) + 1)))) := Lib.hid (KeepsOthers.setCell _ _ _)
    have HP1 : Hid (∀ V, Ext (W.setCell ⟨w.heap.size + 1 + 1 + 1 + 1, 0, none⟩ (.int .i64 ((k : Int) + 1))) V → PB w v out ((k : Int) + 1) V ∧ Blk V (w.heap.size + 1 + 1 + 1 + 1 + 1) 9 #[.string (Ig.rests s k)]) := Lib.hid fun V hV => ⟨(hpb.setN ((k : Int) + 1)).into hV, Blk.ext hV (hz.far (by show w.heap.size + 1 + 1 + 1 + 1 + 1 ≠ w.heap.size + 1 + 1 + 1 + 1; omega) _)⟩
    have HSK : Hid ((Ig.L x = [] ∨ (Ig.L x).head? = some 35) → KeepsOthers W (W.setCell ⟨w.heap.size + 1 + 1 + 1 + 1, 0, none⟩ (.int .i64 ((k : Int) + 1))) ∧ PC w s (k + 1) (W.setCell ⟨w.heap.size + 1 + 1 + 1 + 1, 0, none⟩ (.int .i64 ((k : Int) + 1))) ∧ Blk (W.setCell ⟨w.heap.size + 1 + 1 + 1 + 1, 0, none⟩ (.int .i64 ((k : Int) + 1))) (w.heap.size + 1 + 1 + 1 + 1 + 1) 9 #[.string (Ig.rests s k)]) := Lib.hid fun h =>
      ⟨HKO.out, ⟨v, out, (HP1.out _ (Ext.refl _)).1, by rw [HPE.out, Ig.parse_skip HX1.out h], HOL.out⟩, (HP1.out _ (Ext.refl _)).2⟩
    obtain ⟨hc6, hf6, hl6⟩ := hpb.b6.all
    clear hpb hz hx1 hpe hol
    have h6 : (x.toList == []) = false ∨ (x.toList == []) = true := by cases (x.toList == []) <;> simp
    have hxl : x.toList = Ig.L x := ByteArray.toList_eq x
    rcases h6 with h6 | h6
    · have hne : Ig.L x ≠ [] := by rw [hxl] at h6; exact (beq_eq_false_iff_ne.1 h6)
      have hx0 : 0 < x.size := List.length_pos_iff.2 hne
      have hhd : (Ig.L x).head? = some x[0] := by
        rw [List.head?_eq_getElem?]
        show x.data.toList[0]? = some x[0]
        rw [Array.getElem?_toList]
        exact Array.getElem?_eq_getElem hx0
      have HHD := Lib.hid hhd
      have HNE := Lib.hid hne
      clear hhd hne hxl
      by_cases h35 : x[0] = 35
      · have e1 : ((x[0].toNat : Int) == 35) = true := by rw [h35]; rfl
        have HZ := Lib.hid (HSK.out (.inr (by rw [HHD.out, h35])))
        clear HSK HP1 HKO
        gi_wp2_with fail
        exact HZ.out
      · have e1 : ((x[0].toNat : Int) == 35) = false := byte_ne (n := 35) (by omega) h35
        have HNO : Hid (¬ (Ig.L x = [] ∨ (Ig.L x).head? = some 35)) := Lib.hid (by
          rintro (h | h)
          · exact HNE.out h
          · rw [HHD.out] at h; exact h35 (Option.some.inj h))
        obtain ⟨⟨neg, dO, an, gb⟩, hr⟩ : ∃ r, r = Ig.rule (Ig.L x) := ⟨_, rfl⟩
        have HRU : Hid (∀ V, Calls Tryz.prog 39 #[.string x] V (Ret (.agg #[.bool neg, .bool dO, .bool an, .string gb]) V)) := Lib.hid fun V => by
          have := rule_any x V hxs
          rw [show Ig.rule x.data.toList = ⟨neg, dO, an, gb⟩ from hr.symm] at this
          exact this
        have HRE := Lib.hid hr
        clear hr HSK
        gi_wp2_with fail
        refine ⟨trivial, fun _ => (by omega), ?_⟩
        refine (callsIn_wide.2 (HRU.out _)).mono ?_
        rintro e V1 ⟨rfl, hv1⟩
        have HV1 := Lib.hid hv1
        have HBR := Lib.hid (Blk.new' (w := V1) (g := V1.heap.size) (cs := #[.bool neg, .bool dO, .bool an, .string gb]) (t := 60) rfl)
        have HV2 := Lib.hid (hv1.alloc (.cells #[.bool neg, .bool dO, .bool an, .string gb] 60))
        obtain ⟨gc, hgc⟩ : ∃ z, z = Ig.gcheck gb.data.toList := ⟨_, rfl⟩
        obtain ⟨mk, hmk⟩ : ∃ z, z = Ig.marked gb.data.toList := ⟨_, rfl⟩
        have HLE : Hid (Ig.lineErr (Ig.rule (Ig.L x)) out.length = if gc ≠ 0 then gc else if mk = true then 3 else if out.length = 100 then 4 else 0) := Lib.hid (by rw [← HRE.out, hgc, hmk]; rfl)
        have HGC : Hid (∀ V, Ext V1 V → Calls Tryz.prog 40 #[.string gb] V (Ret (.int .i64 gc) V)) := Lib.hid fun V hV => by rw [hgc]; exact gcheck_any gb V (HG.out.ext (((HP1.out _ hv1).1.ext).trans hV))
        have HMK : Hid (∀ V, Calls Tryz.prog 41 #[.string gb] V (Same (.bool mk) V)) := Lib.hid fun V => by rw [hmk]; exact marked_same gb V
        have HBAD : Hid (∀ V E, Ext V1 V → E ≠ 0 → Ig.lineErr (Ig.rule (Ig.L x)) out.length = E → KeepsOthers W (((V.setCell ⟨w.heap.size, 0, none⟩ (.slice none 0 0)).setCell ⟨w.heap.size + 1, 0, none⟩ (.int .i64 ((k : Int) + 1))).setCell ⟨w.heap.size + 1 + 1, 0, none⟩ (.int .i64 E)) ∧ PX w s (((V.setCell ⟨w.heap.size, 0, none⟩ (.slice none 0 0)).setCell ⟨w.heap.size + 1, 0, none⟩ (.int .i64 ((k : Int) + 1))).setCell ⟨w.heap.size + 1 + 1, 0, none⟩ (.int .i64 E))) := Lib.hid fun V E hV hE he => by
          have hp := (HP1.out _ (HV1.out.trans hV)).1
          refine ⟨(((HKO.out.trans (HV1.out.trans hV).keeps).trans (KeepsOthers.setCell _ _ _)).trans (KeepsOthers.setCell _ _ _)).trans (KeepsOthers.setCell _ _ _), (k : Int) + 1, E, by rw [HPE.out, Ig.parse_err HX1.out HNO.out (by rw [he]; exact hE), he], ?_, ?_, ?_, ?_⟩
          · exact ((Blk.conv (hp.b2.set_ 0 (.slice none 0 0)) (by simp)).far (by show w.heap.size ≠ w.heap.size + 1; omega) _).far (by show w.heap.size ≠ w.heap.size + 1 + 1; omega) _
          · exact (Blk.conv ((hp.b3.far (by show w.heap.size + 1 ≠ w.heap.size; omega) _).set_ 0 (.int .i64 ((k : Int) + 1))) (by simp)).far (by show w.heap.size + 1 ≠ w.heap.size + 1 + 1; omega) _
          · exact Blk.conv (((hp.b4.far (by show w.heap.size + 1 + 1 ≠ w.heap.size; omega) _).far (by show w.heap.size + 1 + 1 ≠ w.heap.size + 1; omega) _).set_ 0 (.int .i64 E)) (by simp)
          · exact Ext.setCell (p := ⟨w.heap.size + 1 + 1, 0, none⟩) (Ext.setCell (p := ⟨w.heap.size + 1, 0, none⟩) (Ext.setCell (p := ⟨w.heap.size, 0, none⟩) hp.ext (Nat.le_refl _) _) (by show w.heap.size ≤ w.heap.size + 1; omega) _) (by show w.heap.size ≤ w.heap.size + 1 + 1; omega) _
        obtain ⟨hcr, hfr, hlr⟩ := HBR.out.all
        clear hv1 hgc hmk hc6 hf6 hl6 HRU
        gi_wp2_with fail
        refine ⟨trivial, fun _ => (by omega), ?_⟩
        refine (callsIn_wide.2 (HGC.out _ ((Ext.refl V1).alloc _))).mono ?_
        rintro e V3 ⟨rfl, hv3⟩
        have HV3 := Lib.hid (((Ext.refl V1).alloc _).trans hv3)
        have HBR3 := Lib.hid (Blk.ext hv3 HBR.out)
        clear hcr hfr hlr hv3 HGC HBR HV2
        obtain ⟨hcr, hfr, hlr⟩ := HBR3.out.all
        cases hz : (gc != 0) with
        | true =>
          have HBD := Lib.hid (HBAD.out V3.drew gc HV3.out.drew1 (by simpa using hz) (by rw [HLE.out, if_pos (by simpa using hz)]))
          obtain ⟨hc6, hf6, hl6⟩ := (HP1.out _ (HV1.out.trans HV3.out)).1.b6.all
          gi_wp2_with fail
          have hp9 := (HP1.out _ (HV1.out.trans HV3.out)).1
          have HB6 : Hid (Blk V3.drew (w.heap.size + 1 + 1 + 1 + 1) 3 #[.int .i64 ((k : Int) + 1)]) := Lib.hid hp9.b6
          obtain ⟨hc2, hf2, hl2⟩ := hp9.b2.all
          obtain ⟨hc3, hf3, hl3⟩ := hp9.b3.all
          obtain ⟨hc4, hf4, hl4⟩ := hp9.b4.all
          clear hp9
          refine wpIn_region_held (S := fun W' => Blk W' (w.heap.size + 1 + 1 + 1 + 1) 3 #[.int .i64 ((k : Int) + 1)]) (by kernel_rfl) (noDefer_spec (by kernel_rfl)) (fun h => by obtain ⟨_, _, h⟩ := h; exact h) HB6.out (fun hS => ?_)
          refine take_any (i := 0) (v := .int .i64 ((k : Int) + 1)) rfl rfl (by kernel_rfl) (by kernel_rfl) (by kernel_rfl) (.inl ⟨(by kernel_rfl), fun W' hW' => ?ld⟩) hS ?_
          case ld =>
            have hcx := hW'.cell
            go_simp
          try simp only [Act.put, sA, s0, sS]
          refine tf (i := 1) (v := .int .i64 gc) rfl rfl (fun _ => rfl) hS ?_
          try simp only [Act.put, sA, s0, sS]
          refine wpAnyH_one (i := 2) (by kernel_rfl) rfl (by kernel_rfl) ?_
          go_simp
          refine ⟨Blk.far hS (by show w.heap.size + 1 + 1 + 1 + 1 ≠ w.heap.size; omega) _, ?_⟩
          try simp only [Act.put, sA, s0, sS]
          refine wpAnyH_one (i := 3) (by kernel_rfl) rfl (by kernel_rfl) ?_
          go_simp
          refine ⟨Blk.far (Blk.far hS (by show w.heap.size + 1 + 1 + 1 + 1 ≠ w.heap.size; omega) _) (by show w.heap.size + 1 + 1 + 1 + 1 ≠ w.heap.size + 1; omega) _, ?_⟩
          try simp only [Act.put, sA, s0, sS]
          refine wpAnyH_one (i := 4) (by kernel_rfl) rfl (by kernel_rfl) ?_
          go_simp
          refine ⟨Blk.far (Blk.far (Blk.far hS (by show w.heap.size + 1 + 1 + 1 + 1 ≠ w.heap.size; omega) _) (by show w.heap.size + 1 + 1 + 1 + 1 ≠ w.heap.size + 1; omega) _) (by show w.heap.size + 1 + 1 + 1 + 1 ≠ w.heap.size + 1 + 1; omega) _, ?_⟩
          try simp only [Act.put, sA, s0, sS]
          refine wpAnyH_done (by kernel_rfl) (NoPanic.normal ?_) _
          gi_wp2_with fail
          exact HBD.out
        | false =>
          obtain rfl : gc = 0 := by simpa using hz
          clear hz
          gi_wp2_with fail
          refine ⟨trivial, fun _ => (by omega), ?_⟩
          refine (callsIn_wide.2 (HMK.out _)).mono ?_
          rintro e V4 ⟨rfl, rfl⟩
          cases mk with
          | true =>
            have HBD := Lib.hid (HBAD.out V4.drew 3 HV3.out.drew1 (by decide) (by rw [HLE.out]; rfl))
            obtain ⟨hc6, hf6, hl6⟩ := (HP1.out _ (HV1.out.trans HV3.out)).1.b6.all
            gi_wp2_with fail
            have hp9 := (HP1.out _ (HV1.out.trans HV3.out)).1
            have HB6 : Hid (Blk V4.drew (w.heap.size + 1 + 1 + 1 + 1) 3 #[.int .i64 ((k : Int) + 1)]) := Lib.hid hp9.b6
            obtain ⟨hc2, hf2, hl2⟩ := hp9.b2.all
            obtain ⟨hc3, hf3, hl3⟩ := hp9.b3.all
            obtain ⟨hc4, hf4, hl4⟩ := hp9.b4.all
            clear hp9
            refine wpIn_region_held (S := fun W' => Blk W' (w.heap.size + 1 + 1 + 1 + 1) 3 #[.int .i64 ((k : Int) + 1)]) (by kernel_rfl) (noDefer_spec (by kernel_rfl)) (fun h => by obtain ⟨_, _, h⟩ := h; exact h) HB6.out (fun hS => ?_)
            refine take_any (i := 0) (v := .int .i64 ((k : Int) + 1)) rfl rfl (by kernel_rfl) (by kernel_rfl) (by kernel_rfl) (.inl ⟨(by kernel_rfl), fun W' hW' => ?ld⟩) hS ?_
            case ld =>
              have hcx := hW'.cell
              go_simp
            try simp only [Act.put, sA, s0, sS]
            refine tf (i := 1) (v := .int .i64 3) rfl rfl (fun _ => rfl) hS ?_
            try simp only [Act.put, sA, s0, sS]
            refine wpAnyH_one (i := 2) (by kernel_rfl) rfl (by kernel_rfl) ?_
            go_simp
            refine ⟨Blk.far hS (by show w.heap.size + 1 + 1 + 1 + 1 ≠ w.heap.size; omega) _, ?_⟩
            try simp only [Act.put, sA, s0, sS]
            refine wpAnyH_one (i := 3) (by kernel_rfl) rfl (by kernel_rfl) ?_
            go_simp
            refine ⟨Blk.far (Blk.far hS (by show w.heap.size + 1 + 1 + 1 + 1 ≠ w.heap.size; omega) _) (by show w.heap.size + 1 + 1 + 1 + 1 ≠ w.heap.size + 1; omega) _, ?_⟩
            try simp only [Act.put, sA, s0, sS]
            refine wpAnyH_one (i := 4) (by kernel_rfl) rfl (by kernel_rfl) ?_
            go_simp
            refine ⟨Blk.far (Blk.far (Blk.far hS (by show w.heap.size + 1 + 1 + 1 + 1 ≠ w.heap.size; omega) _) (by show w.heap.size + 1 + 1 + 1 + 1 ≠ w.heap.size + 1; omega) _) (by show w.heap.size + 1 + 1 + 1 + 1 ≠ w.heap.size + 1 + 1; omega) _, ?_⟩
            try simp only [Act.put, sA, s0, sS]
            refine wpAnyH_done (by kernel_rfl) (NoPanic.normal ?_) _
            gi_wp2_with fail
            exact HBD.out
          | false =>
            obtain ⟨A5, c5, rfl, hc59, -⟩ := (HP1.out _ (HV1.out.trans HV3.out)).1.own.slice
            obtain ⟨hc6, hf6, hl6⟩ := (HP1.out _ (HV1.out.trans HV3.out)).1.b6.all
            obtain ⟨hc5, hf5, hl5⟩ := (HP1.out _ (HV1.out.trans HV3.out)).1.b5.all
            by_cases h100 : out.length = 100
            · have e9 : ((out.length : Int) == 100) = true := by rw [h100]; rfl
              have HBD := Lib.hid (HBAD.out V4.drew 4 HV3.out.drew1 (by decide) (by rw [HLE.out, if_neg (by simp), if_neg (by simp), if_pos h100]))
              clear h100
              gi_wp2_with fail
              have hp9 := (HP1.out _ (HV1.out.trans HV3.out)).1
              have HB6 : Hid (Blk V4.drew (w.heap.size + 1 + 1 + 1 + 1) 3 #[.int .i64 ((k : Int) + 1)]) := Lib.hid hp9.b6
              obtain ⟨hc2, hf2, hl2⟩ := hp9.b2.all
              obtain ⟨hc3, hf3, hl3⟩ := hp9.b3.all
              obtain ⟨hc4, hf4, hl4⟩ := hp9.b4.all
              clear hp9
              refine wpIn_region_held (S := fun W' => Blk W' (w.heap.size + 1 + 1 + 1 + 1) 3 #[.int .i64 ((k : Int) + 1)]) (by kernel_rfl) (noDefer_spec (by kernel_rfl)) (fun h => by obtain ⟨_, _, h⟩ := h; exact h) HB6.out (fun hS => ?_)
              refine take_any (i := 0) (v := .int .i64 ((k : Int) + 1)) rfl rfl (by kernel_rfl) (by kernel_rfl) (by kernel_rfl) (.inl ⟨(by kernel_rfl), fun W' hW' => ?ld⟩) hS ?_
              case ld =>
                have hcx := hW'.cell
                go_simp
              try simp only [Act.put, sA, s0, sS]
              refine tf (i := 1) (v := .int .i64 4) rfl rfl (fun _ => rfl) hS ?_
              try simp only [Act.put, sA, s0, sS]
              refine wpAnyH_one (i := 2) (by kernel_rfl) rfl (by kernel_rfl) ?_
              go_simp
              refine ⟨Blk.far hS (by show w.heap.size + 1 + 1 + 1 + 1 ≠ w.heap.size; omega) _, ?_⟩
              try simp only [Act.put, sA, s0, sS]
              refine wpAnyH_one (i := 3) (by kernel_rfl) rfl (by kernel_rfl) ?_
              go_simp
              refine ⟨Blk.far (Blk.far hS (by show w.heap.size + 1 + 1 + 1 + 1 ≠ w.heap.size; omega) _) (by show w.heap.size + 1 + 1 + 1 + 1 ≠ w.heap.size + 1; omega) _, ?_⟩
              try simp only [Act.put, sA, s0, sS]
              refine wpAnyH_one (i := 4) (by kernel_rfl) rfl (by kernel_rfl) ?_
              go_simp
              refine ⟨Blk.far (Blk.far (Blk.far hS (by show w.heap.size + 1 + 1 + 1 + 1 ≠ w.heap.size; omega) _) (by show w.heap.size + 1 + 1 + 1 + 1 ≠ w.heap.size + 1; omega) _) (by show w.heap.size + 1 + 1 + 1 + 1 ≠ w.heap.size + 1 + 1; omega) _, ?_⟩
              try simp only [Act.put, sA, s0, sS]
              refine wpAnyH_done (by kernel_rfl) (NoPanic.normal ?_) _
              gi_wp2_with fail
              exact HBD.out
            · have e9 : ((out.length : Int) == 100) = false := beq_eq_false_iff_ne.2 (by omega)
              have HLZ : Hid (Ig.lineErr (Ig.rule (Ig.L x)) out.length = 0) := Lib.hid (by rw [HLE.out, if_neg (by simp), if_neg (by simp), if_neg h100])
              have HOL2 : Hid (out.length + 1 ≤ 100) := Lib.hid (by have := HOL.out; omega)
              have HPB := Lib.hid ((HP1.out _ (HV1.out.trans HV3.out)).1.into ((Ext.refl V4).alloc (.cells #[.bool neg, .bool dO, .bool an, .string gb] 60)))
              have HZB := Lib.hid (Blk.alloc (HP1.out _ (HV1.out.trans HV3.out)).2 (.cells #[.bool neg, .bool dO, .bool an, .string gb] 60))
              have HKV : Hid (KeepsOthers W (V4.alloc (.cells #[.bool neg, .bool dO, .bool an, .string gb] 60))) := Lib.hid (HKO.out.trans ((HV1.out.trans HV3.out).alloc _).keeps)
              obtain ⟨i0, z0, hi0, hz0, hs0, hb0, hzk0⟩ := ruInfo
              have hl8 : w.heap.size + 1 + 1 + 1 + 1 + 1 + 1 + 1 < V4.heap.size := (HP1.out _ (HV1.out.trans HV3.out)).1.bv.lt
              clear h100 HBAD HMK
              gi_wp2_with (gi_at_builtin; refine wpListIn_append_w (k := 4) (R := RuR) RuR.one w _ rfl (.tmp 42) (.tmp 44) 23 60 i0 z0 rfl Tryz.underlying23 hi0 hz0 hs0 hb0 hzk0 (by decide) (w.heap.size + 1 + 1 + 1 + 1 + 1 + 1 + 1 + 1) (F := All) (.slice A5 out.length c5) out rfl HPB.out.own V4.heap.size 1 [.bool neg, .bool dO, .bool an, .string gb] ⟨neg, dO, an, gb⟩ rfl ?_ rfl rfl ?_ ?_ ?_ ?_)
              focus
                exact Blk.range (Blk.new' (w := V4) (g := V4.heap.size) (cs := #[.bool neg, .bool dO, .bool an, .string gb]) (t := 60) rfl) 0 [.bool neg, .bool dO, .bool an, .string gb] (fun j hj => by simp)
              focus
                have := HOL2.out; unfold maxLen; omega
              focus
                have := HOL2.out; omega
              focus
                simp; omega
              intro g2 cap w2 how2 hgrow
              have HZ : Hid (KeepsOthers W (w2.setCell ⟨w.heap.size + 1 + 1 + 1, 0, none⟩ (.slice (some ⟨g2, 0, none⟩) (out.length + 1) cap)) ∧ PC w s (k + 1) (w2.setCell ⟨w.heap.size + 1 + 1 + 1, 0, none⟩ (.slice (some ⟨g2, 0, none⟩) (out.length + 1) cap)) ∧ Blk (w2.setCell ⟨w.heap.size + 1 + 1 + 1, 0, none⟩ (.slice (some ⟨g2, 0, none⟩) (out.length + 1) cap)) (w.heap.size + 1 + 1 + 1 + 1 + 1) 9 #[.string (Ig.rests s k)]) := Lib.hid
                ⟨(HKV.out.trans (KeepsOthers.of_grownBy hgrow fun j o ej hj => by
                  obtain ⟨_, cs, hb⟩ := HPB.out.own.block ej
                  rw [hb.eq] at hj
                  cases hj
                  rfl)).trans (KeepsOthers.setCell _ _ _), ⟨_, _, HPB.out.app hgrow how2, by rw [HPE.out, Ig.parse_rule HX1.out HNO.out HLZ.out, ← HRE.out], by rw [List.length_append]; exact HOL2.out⟩, (HPB.out.grown hgrow HZB.out (by omega)).far (by show w.heap.size + 1 + 1 + 1 + 1 + 1 ≠ w.heap.size + 1 + 1 + 1; omega) _⟩
              obtain ⟨hd5, hg5, hk5⟩ := (HPB.out.grown hgrow HPB.out.b5 (by omega)).all
              clear hcr hfr hlr hc5 hf5 hl5 hc6 hf6 hl6 how2 hgrow
              gi_wp2_with fail
              exact HZ.out
    · have HZ := Lib.hid (HSK.out (.inl (by rw [hxl] at h6; exact List.isEmpty_iff.1 (by simpa using h6))))
      clear HSK HP1 HKO hxl
      gi_wp2_with fail
      exact HZ.out
  case done =>
    intro D W hD hI hK
    obtain ⟨⟨v, out, hpb, hpe, hol⟩, -⟩ := hI
    have hD2 : w.heap.size + 1 + 1 + 1 ≤ D := by simp at hD; omega
    have hpe2 : Ig.parse (Ig.L s) = (out, 0, 0) := by
      rw [hpe, List.drop_eq_nil_of_le (by rw [HN.out]; exact Nat.le_refl _)]
      rfl
    obtain ⟨A9, c9, rfl, hc9, -⟩ := hpb.own.slice
    have hhi : Hi w.heap.size A9 := fun a e => by
      obtain ⟨cs, h1, h2, ⟨h3, h5⟩, h4⟩ := hpb.own
      rcases h5 with ⟨e0, _⟩ | ⟨g, cap, cur, e0, hb, _⟩
      · obtain rfl : A9 = none := by injection e0
        cases e
      · obtain rfl : A9 = some ⟨g, 0, none⟩ := by injection e0
        cases e
        show w.heap.size ≤ g
        omega
    have q1 : (w.heap.size : Nat) ≠ w.heap.size + 1 := by omega
    have q2 : (w.heap.size : Nat) ≠ w.heap.size + 1 + 1 := by omega
    have q3 : w.heap.size + 1 ≠ w.heap.size + 1 + 1 := by omega
    obtain ⟨Wf, hWf⟩ : ∃ Wf, Wf = ((W.setCell ⟨w.heap.size, 0, none⟩ (.slice A9 out.length c9)).setCell ⟨w.heap.size + 1, 0, none⟩ (.int .i64 0)).setCell ⟨w.heap.size + 1 + 1, 0, none⟩ (.int .i64 0) := ⟨_, rfl⟩
    have k2 : Blk Wf w.heap.size 23 #[.slice A9 out.length c9] := by rw [hWf]; exact ((Blk.conv (hpb.b2.set_ 0 (.slice A9 out.length c9)) (by simp)).far q1 _).far q2 _
    have k3 : Blk Wf (w.heap.size + 1) 3 #[.int .i64 0] := by rw [hWf]; exact (Blk.conv ((hpb.b3.far q1.symm _).set_ 0 (.int .i64 0)) (by simp)).far q3 _
    have k4 : Blk Wf (w.heap.size + 1 + 1) 24 #[.int .i64 0] := by rw [hWf]; exact Blk.conv (((hpb.b4.far q2.symm _).far q3.symm _).set_ 0 (.int .i64 0)) (by simp)
    have k5 : OwnW 4 RuR 60 w Wf (w.heap.size + 1 + 1 + 1 + 1 + 1 + 1 + 1 + 1) All (.slice A9 out.length c9) out := by
      rw [hWf]
      exact ((hpb.own.kept (grownBy_setCell' _ _ _) (fun b e => by cases e; omega)).kept (grownBy_setCell' _ _ _) (fun b e => by cases e; omega)).kept (grownBy_setCell' _ _ _) (fun b e => by cases e; omega)
    have k6 : Ext w Wf := by
      rw [hWf]
      exact Ext.setCell (p := ⟨w.heap.size + 1 + 1, 0, none⟩) (Ext.setCell (p := ⟨w.heap.size + 1, 0, none⟩) (Ext.setCell (p := ⟨w.heap.size, 0, none⟩) hpb.ext (Nat.le_refl _) _) (by show w.heap.size ≤ w.heap.size + 1; omega) _) (by show w.heap.size ≤ w.heap.size + 1 + 1; omega) _
    have hk6 : Wf.heap[D]? = some (.deferred (some [])) := by
      rw [hWf]
      exact ((((KeepsOthers.setCell W ⟨w.heap.size, 0, none⟩ _).trans (KeepsOthers.setCell _ ⟨w.heap.size + 1, 0, none⟩ _)).trans (KeepsOthers.setCell _ ⟨w.heap.size + 1 + 1, 0, none⟩ _))).same _ _ hK rfl
    have ht : Turned Wf (Wf.putObj D (.deferred none)) := ⟨some D, grownBy_putObj' _ D _, fun r e => by cases e; exact ⟨_, hk6, rfl⟩⟩
    have hxf := k6.putObj (D := D) (by omega) (.deferred none)
    obtain ⟨A8, c8, e8, _, hsl⟩ := (k5.turned ht).sls RuR.steadfast hxf
    obtain ⟨rfl, rfl⟩ : A9 = A8 ∧ c9 = c8 := by injection e8 with e1 _ e2; exact ⟨e1, e2⟩
    have H2 := Lib.hid (k2.turned ht)
    have H3 := Lib.hid (k3.turned ht)
    have H4 := Lib.hid (k4.turned ht)
    have HFI : Hid (ParseF (Ig.parse (Ig.L s)) w (.returned (.tuple #[.slice A9 out.length c9, .int .i64 0, .int .i64 0])) (Wf.putObj D (.deferred none))) := Lib.hid (by rw [hpe2]; exact ⟨A9, out.length, c9, rfl, rfl, hc9, hsl, hhi, hxf⟩)
    have HK6 := Lib.hid hk6
    have HWF := Lib.hid hWf
    obtain ⟨hc2, hf2, hl2⟩ := hpb.b2.all
    obtain ⟨hc3, hf3, hl3⟩ := hpb.b3.all
    obtain ⟨hc4, hf4, hl4⟩ := hpb.b4.all
    obtain ⟨hc5, hf5, hl5⟩ := hpb.b5.all
    clear hK hpb hpe hol hD hD2 hpe2 hhi q1 q2 q3 hWf k2 k3 k4 k5 k6 hk6 ht hxf e8 hsl HGV HI0
    gi_wp2_with fail
    rw [← HWF.out]
    clear hc2 hf2 hl2 hc3 hf3 hl3 hc4 hf4 hl4 hc5 hf5 hl5
    have t2 := H2.out.cell
    have t3 := H3.out.cell
    have t4 := H4.out.cell
    refine ⟨by simp, .inl ⟨_, _, rfl, run_takeDeferred HK6.out, ?_⟩⟩
    refine ⟨.tuple #[.slice A9 out.length c9, .int .i64 0, .int .i64 0], ?_, ?_⟩
    · simp only [results, Tryz.results12]
      go_simp
    · exact HFI.out
  case stop =>
    intro D W hD hX hK
    obtain ⟨n, e, hpe, r2, r3, r4, hx⟩ := hX
    have HK := Lib.hid hK
    have hD2 : w.heap.size ≤ D := by simp at hD; omega
    have ht : Turned W (W.putObj D (.deferred none)) := ⟨some D, grownBy_putObj' W D _, fun r e => by cases e; exact ⟨_, HK.out, rfl⟩⟩
    have t2 := (r2.turned ht).cell
    have t3 := (r3.turned ht).cell
    have t4 := (r4.turned ht).cell
    have HFI : Hid (ParseF (Ig.parse (Ig.L s)) w (.returned (.tuple #[.slice none 0 0, .int .i64 n, .int .i64 e])) (W.putObj D (.deferred none))) := Lib.hid (by rw [hpe]; exact ⟨none, 0, 0, rfl, rfl, Nat.le_refl _, Sls.nil 4 RuR _ _, (fun a ha => nomatch ha), hx.putObj hD2 (.deferred none)⟩)
    clear ht r2 r3 r4 hx hK HGV HI0 hpe
    gi_wp2_with fail
    refine ⟨by simp, .inl ⟨_, _, rfl, run_takeDeferred HK.out, ?_⟩⟩
    refine ⟨.tuple #[.slice none 0 0, .int .i64 n, .int .i64 e], ?_, ?_⟩
    · simp only [results, Tryz.results12]
      go_simp
    · exact HFI.out
/-- Parse. -/
theorem iparse_any (s : ByteArray) (w : World) (hs : s.size ≤ 1000000000) (hgl : Glob w) :
    Calls Tryz.prog 12 #[.string s] w (ParseF (Ig.parse (Ig.L s)) w) :=
  callsIn_wide.1 (iparse_in 9 (Nat.le_refl _) s w hs hgl)
end Go.Proofs.YtnjcifppkijanaaGreatDoor
