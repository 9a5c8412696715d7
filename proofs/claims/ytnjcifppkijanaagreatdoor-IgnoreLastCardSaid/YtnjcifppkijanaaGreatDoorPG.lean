/- Walks: ignore: paths, marks, one rule. Walks: ignore: rules are printed. Walks: ignore: files are checked. Walks: ignore: a path's part within a directory; what a rule fits. -/
import Derived.Test.YtnjcifppkijanaaGreatDoorPF
import Derived.Test.YtnjcifppkijanaaGreatDoorL
set_option linter.unusedSimpArgs false
set_option linter.unusedVariables false
namespace Go.Proofs.YtnjcifppkijanaaGreatDoor
open Go Go.RowKit Go.Shelf

/-! ### The library's words on lists of bytes -/
theorem index_ge : ∀ (l : List UInt8) (c : UInt8), -1 ≤ Lib.indexByte l c
  | [], _ => Int.le_refl _
  | x :: l, c => by
    have ih := index_ge l c
    have hu : Lib.indexByte (x :: l) c = if (x == c) = true then 0 else if (Lib.indexByte l c == -1) = true then -1 else Lib.indexByte l c + 1 := rfl
    rw [hu]
    split
    · omega
    · split <;> omega
theorem contains_index (l : List UInt8) (c : UInt8) : decide (0 ≤ Lib.indexByte l c) = l.contains c := by
  induction l with
  | nil => rfl
  | cons x l ih =>
    by_cases e : x = c
    · subst e
      simp [Lib.indexByte]
    · have h1 : (x == c) = false := beq_eq_false_iff_ne.2 e
      have h2 : (c == x) = false := beq_eq_false_iff_ne.2 (Ne.symm e)
      rw [List.contains_cons, h2, Bool.false_or, ← ih]
      have hu : Lib.indexByte (x :: l) c = if (x == c) = true then 0 else if (Lib.indexByte l c == -1) = true then -1 else Lib.indexByte l c + 1 := rfl
      rw [hu, h1]
      by_cases h3 : Lib.indexByte l c = -1
      · rw [h3]; rfl
      · have h4 : (Lib.indexByte l c == -1) = false := beq_eq_false_iff_ne.2 h3
        rw [h4]
        have h5 : -1 ≤ Lib.indexByte l c := index_ge l c
        simp only [if_neg (show ¬ (false = true) by decide)]
        exact decide_eq_decide.2 (by omega)
theorem hasPrefix_one (l : List UInt8) (c : UInt8) : Lib.hasPrefix l [c] = (l.head? == some c) := by
  unfold Lib.hasPrefix
  cases l with
  | nil => rfl
  | cons x l =>
    show ([c].isPrefixOf (x :: l)) = (some x == some c)
    by_cases e : c = x
    · subst e; simp [List.isPrefixOf]
    · have h1 : (c == x) = false := beq_eq_false_iff_ne.2 e
      have h2 : (some x == some c) = false := by simp [Ne.symm e]
      rw [h2]
      simp [List.isPrefixOf, h1]
theorem cutP_eq (c : UInt8) (l : List UInt8) : Ig.cutP c l = (Lib.trimPrefix l [c], Lib.hasPrefix l [c]) := by
  unfold Lib.trimPrefix
  rw [hasPrefix_one]
  cases l with
  | nil => rfl
  | cons x l =>
    show (if x = c then (l, true) else (x :: l, false)) = _
    by_cases e : x = c
    · subst e; simp
    · simp [e]
theorem cutS_eq (c : UInt8) (l : List UInt8) : Ig.cutS c l = (Lib.trimSuffix l [c], Lib.hasSuffix l [c]) := by
  unfold Lib.trimSuffix Ig.cutS
  have h1 : Lib.hasSuffix l [c] = decide (l.getLast? = some c) := by
    unfold Lib.hasSuffix
    rw [Bool.eq_iff_iff, List.isSuffixOf_iff_suffix, decide_eq_true_iff]
    constructor
    · rintro ⟨t, rfl⟩
      simp
    · intro h
      obtain ⟨t, ht⟩ := List.getLast?_eq_some_iff.1 h
      exact ⟨t, ht.symm⟩
  rw [h1]
  by_cases h : l.getLast? = some c
  · rw [if_pos h, decide_eq_true h, if_pos rfl]
    simp [List.dropLast_eq_take]
  · rw [if_neg h, decide_eq_false h]
    rfl
theorem marked_eq (l : List UInt8) : (Lib.hasPrefix l [35] || Lib.hasPrefix l [33]) = Ig.marked l := by
  rw [hasPrefix_one, hasPrefix_one]
  rfl

set_option maxHeartbeats 1000000 in
theorem deep_same (g : ByteArray) (w : World) : Calls Tryz.prog 46 #[.string g] w (Same (.bool (Ig.deep g.data.toList)) w) := by
  have hv := contains_index g.data.toList 47
  have HV : Hid (decide (0 ≤ Lib.indexByte g.data.toList 47) = Ig.deep g.data.toList) := Lib.hid hv
  clear hv
  go_enter Tryz.func46, Tryz.ntmps46
  go_wp2_with fail
  refine (Tryz.strings_Contains_one g 47 w).mono ?_
  rintro e w1 ⟨rfl, rfl⟩
  rw [HV.out]
  go_wp2_with fail
  go_ret
  exact ⟨rfl, rfl⟩
set_option maxHeartbeats 1000000 in
theorem marked_same (g : ByteArray) (w : World) : Calls Tryz.prog 41 #[.string g] w (Same (.bool (Ig.marked g.data.toList)) w) := by
  have HV := Lib.hid (marked_eq g.data.toList)
  go_enter Tryz.func41, Tryz.ntmps41
  go_wp2_with fail
  refine (Tryz.strings_HasPrefix g ⟨#[35]⟩ w).mono ?_
  rintro e w1 ⟨rfl, rfl⟩
  cases h1 : Lib.hasPrefix g.data.toList [35] with
  | true =>
    have hv : Ig.marked g.data.toList = true := by rw [← HV.out, h1]; rfl
    have HV2 := Lib.hid hv
    clear hv HV
    go_wp2_with fail
    go_ret
    exact ⟨by rw [HV2.out]; rfl, rfl⟩
  | false =>
    have hv : Lib.hasPrefix g.data.toList [33] = Ig.marked g.data.toList := by rw [← HV.out, h1]; rfl
    have HV2 := Lib.hid hv
    clear hv HV
    go_wp2_with fail
    refine (Tryz.strings_HasPrefix g ⟨#[33]⟩ w1).mono ?_
    rintro e w2 ⟨rfl, rfl⟩
    go_wp2_with fail
    go_ret
    exact ⟨by rw [← HV2.out]; rfl, rfl⟩
/-- A directory is made there: that is how a path is tested. -/
abbrev dirp (s : ByteArray) : Pv := ⟨3, s, ⟨#[]⟩, 0, 0, none, 0, 0, none, 0, 0, 0, ⟨#[]⟩, ⟨#[]⟩, 0, 0⟩
theorem dirp_check (s : ByteArray) : ((dirp s).check [] [] == 0) = Qm.isPath s := by
  unfold Pv.check
  have h1 : (dirp s).known = true := rfl
  have h2 : (dirp s).tidy = true := by
    have h5 : (dirp s).strip = dirp s := rfl
    unfold Pv.tidy
    rw [h5]
    simp [Pv.bare, ByteArray.toList_eq]
  have h3 : (dirp s).pathsOk = Qm.isPath s := by
    unfold Pv.pathsOk
    show (Qm.isPath s && (!((3 : Int) == 5) || Qm.isPath ⟨#[]⟩)) = _
    simp
  rw [h1, h2, h3]
  cases Qm.isPath s <;> rfl
set_option maxHeartbeats 1000000 in
theorem iisPath_any (s : ByteArray) (w : World) (hgl : Glob w) (hs : s.size ≤ 1000000000) : Calls Tryz.prog 49 #[.string s] w (Ret (.bool (Qm.isPath s)) w) := by
  have HV := Lib.hid (dirp_check s)
  have HC : Hid (Calls Tryz.prog 74 #[(dirp s).v] w (Ret (.int .i64 ((dirp s).check [] [])) w)) := Lib.hid (check_any (dirp s) [] [] w hgl ⟨⟨rfl, fun h => absurd h (Nat.lt_irrefl 0)⟩, fun _ => ⟨rfl, rfl⟩⟩ ⟨⟨rfl, fun h => absurd h (Nat.lt_irrefl 0)⟩, fun _ => ⟨rfl, rfl⟩⟩ (Nat.zero_le _) (Nat.zero_le _) (by show s.size ≤ _; omega) (Nat.zero_le _))
  generalize (dirp s).check [] [] = ck at HV HC
  clear hgl
  go_enter Tryz.func49, Tryz.ntmps49
  go_wp2_with fail
  refine HC.out.mono ?_
  rintro e w1 ⟨rfl, hx⟩
  go_wp2_with fail
  go_ret
  exact ⟨by rw [← HV.out]; rfl, hx⟩
/-- A rule's value. -/
def Ig.Ru.v (r : Ig.Ru) : Value := .agg #[.bool r.neg, .bool r.dirOnly, .bool r.anch, .string r.glob]
set_option maxHeartbeats 4000000 in
set_option maxRecDepth 100000 in
theorem rule_any (s : ByteArray) (w : World) (hs : s.size ≤ 1000000000) : Calls Tryz.prog 39 #[.string s] w (Ret (Ig.rule s.data.toList).v w) := by
  obtain ⟨a1, ha1⟩ : ∃ a, a = Ig.bs (Lib.trimPrefix s.data.toList [33]) := ⟨_, rfl⟩
  obtain ⟨n1, hn1⟩ : ∃ a, a = Lib.hasPrefix s.data.toList [33] := ⟨_, rfl⟩
  obtain ⟨a2, ha2⟩ : ∃ a, a = Ig.bs (Lib.trimPrefix a1.data.toList [47]) := ⟨_, rfl⟩
  obtain ⟨n2, hn2⟩ : ∃ a, a = Lib.hasPrefix a1.data.toList [47] := ⟨_, rfl⟩
  obtain ⟨a3, ha3⟩ : ∃ a, a = Ig.bs (Lib.trimSuffix a2.data.toList [47]) := ⟨_, rfl⟩
  obtain ⟨n3, hn3⟩ : ∃ a, a = Lib.hasSuffix a2.data.toList [47] := ⟨_, rfl⟩
  have HV : Hid (Ig.rule s.data.toList = ⟨n1, n3, n2 || Ig.deep a3.data.toList, a3⟩) := Lib.hid (by
    unfold Ig.rule
    rw [cutP_eq]
    dsimp only
    rw [cutP_eq]
    dsimp only
    rw [cutS_eq, hn1, hn2, hn3, ha3, ha2, ha1]
    rfl)
  have hz2 : a2.size ≤ 1000000000 := by
    have h1 : ∀ (l : List UInt8) (c : UInt8), (Lib.trimPrefix l [c]).length ≤ l.length := fun l c => by
      unfold Lib.trimPrefix
      split
      · rw [List.length_drop]; omega
      · exact Nat.le_refl _
    have h2 := h1 s.data.toList 33
    have h3 := h1 a1.data.toList 47
    have h4 : a1.data.toList.length = (Lib.trimPrefix s.data.toList [33]).length := by rw [ha1]; rfl
    have h5 : a2.size = (Lib.trimPrefix a1.data.toList [47]).length := by rw [ha2]; rfl
    have h6 : s.data.toList.length = s.size := rfl
    omega
  have HC1 : Hid (∀ W, Calls Tryz.prog 68 #[.string s, .string ⟨#[33]⟩] W fun e w' => e = .returned (.tuple #[.string a1, .bool n1]) ∧ w' = W) := Lib.hid fun W => by rw [ha1, hn1]; exact Tryz.strings_CutPrefix s ⟨#[33]⟩ W
  have HC2 : Hid (∀ W, Calls Tryz.prog 68 #[.string a1, .string ⟨#[47]⟩] W fun e w' => e = .returned (.tuple #[.string a2, .bool n2]) ∧ w' = W) := Lib.hid fun W => by rw [ha2, hn2]; exact Tryz.strings_CutPrefix a1 ⟨#[47]⟩ W
  have HC3 : Hid (∀ W, Calls Tryz.prog 69 #[.string a2, .string ⟨#[47]⟩] W fun e w' => e = .returned (.tuple #[.string a3, .bool n3]) ∧ w' = W) := Lib.hid fun W => by rw [ha3, hn3]; exact Tryz.strings_CutSuffix a2 ⟨#[47]⟩ W (by omega)
  have hx := Ext.refl w
  clear ha1 hn1 ha2 hn2 ha3 hn3 hz2
  go_enter Tryz.func39, Tryz.ntmps39
  go_wp2_with fail
  refine (HC1.out _).mono ?_
  rintro e w1 ⟨rfl, rfl⟩
  go_wp2_with fail
  refine (HC2.out _).mono ?_
  rintro e w2 ⟨rfl, rfl⟩
  go_wp2_with fail
  refine (HC3.out _).mono ?_
  rintro e w3 ⟨rfl, rfl⟩
  cases n2 with
  | true =>
    have hv : Ig.rule s.data.toList = ⟨n1, n3, true, a3⟩ := by rw [HV.out]; rfl
    have HV2 := Lib.hid hv
    clear hv HV
    go_wp2_with fail
    refine bodyPost_ret (v := .agg #[.bool n1, .bool n3, .bool true, .string a3]) ?_ rfl ?_
    focus
      simp only [results, Tryz.results39]
      go_simp
      done
    exact ⟨by rw [HV2.out]; rfl, (hx.alloc _).alloc _⟩
  | false =>
    have hv : Ig.rule s.data.toList = ⟨n1, n3, Ig.deep a3.data.toList, a3⟩ := by rw [HV.out, Bool.false_or]
    have HV2 := Lib.hid hv
    clear hv HV
    go_wp2_with fail
    refine (deep_same _ _).mono ?_
    rintro e w4 ⟨rfl, rfl⟩
    generalize Ig.deep a3.data.toList = dd at HV2 ⊢
    go_wp2_with fail
    refine bodyPost_ret (v := .agg #[.bool n1, .bool n3, .bool dd, .string a3]) ?_ rfl ?_
    focus
      simp only [results, Tryz.results39]
      go_simp
      done
    exact ⟨by rw [HV2.out]; rfl, (hx.alloc _).alloc _⟩
end Go.Proofs.YtnjcifppkijanaaGreatDoor
namespace Go.Proofs.YtnjcifppkijanaaGreatDoor
open Go Go.RowKit Go.Shelf

namespace Ig
theorem rulesErr_app : ∀ {a b : List Ru}, (∀ r ∈ a, ruleErr r = 0) → rulesErr (a ++ b) = rulesErr b
  | [], b, _ => rfl
  | r :: a, b, h => by
    show (if ruleErr r ≠ 0 then _ else _) = _
    rw [if_neg (by simp [h r (List.mem_cons_self ..)])]
    exact rulesErr_app fun x hx => h x (List.mem_cons_of_mem _ hx)
theorem rulesErr_bad {l : List Ru} {k : Nat} {r : Ru} (h : ∀ x ∈ l.take k, ruleErr x = 0) (hk : l[k]? = some r) (hr : ruleErr r ≠ 0) : rulesErr l = ruleErr r := by
  obtain ⟨h2, h3⟩ := List.getElem?_eq_some_iff.1 hk
  have h1 : l = l.take k ++ (r :: l.drop (k + 1)) := by rw [← h3, ← List.drop_eq_getElem_cons h2, List.take_append_drop]
  rw [h1, rulesErr_app h]
  show (if ruleErr r ≠ 0 then _ else _) = _
  rw [if_pos hr]
theorem rulesErr_good : ∀ {l : List Ru}, (∀ r ∈ l, ruleErr r = 0) → rulesErr l = 0
  | [], _ => rfl
  | r :: l, h => by
    show (if ruleErr r ≠ 0 then _ else _) = _
    rw [if_neg (by simp [h r (List.mem_cons_self ..)])]
    exact rulesErr_good fun x hx => h x (List.mem_cons_of_mem _ hx)
/-- The text of the rules so far. -/
def textTo (l : List Ru) (k : Nat) : List UInt8 := (l.take k).flatMap fun r => body r ++ [10]
theorem textTo_next {l : List Ru} {k : Nat} {r : Ru} (h : l[k]? = some r) : textTo l (k + 1) = textTo l k ++ (body r ++ [10]) := by
  unfold textTo
  rw [take_snoc h, List.flatMap_append]
  simp
theorem print_bad {l : List Ru} {k : Nat} {r : Ru} (hn : l.length ≤ 100) (h : ∀ x ∈ l.take k, ruleErr x = 0) (hk : l[k]? = some r) (hr : ruleErr r ≠ 0) : print l = ([], ruleErr r) := by
  unfold print
  rw [if_neg (by omega), rulesErr_bad h hk hr, if_pos hr]
theorem print_good {l : List Ru} (hn : l.length ≤ 100) (h : ∀ r ∈ l, ruleErr r = 0) : print l = (textTo l l.length, 0) := by
  unfold print textTo
  rw [if_neg (by omega), rulesErr_good h, if_neg (by simp), List.take_length]
end Ig
theorem szB (c : UInt8) : (⟨#[c]⟩ : ByteArray).size = 1 := rfl
theorem Lapp (s t : ByteArray) : (s ++ t).data.toList = s.data.toList ++ t.data.toList := by
  simp [ByteArray.data_append]
set_option maxHeartbeats 8000000 in
set_option maxRecDepth 100000 in
theorem print_any (A : Option Addr) (n c : Nat) (l : List Ig.Ru) (w : World) {F : Nat → Prop} (h : Rus w F A l) (hn : l.length = n) (hb : n ≤ 1000000000) (hgl : Glob w) :
    Calls Tryz.prog 16 #[.slice A n c] w (Ret (.tuple #[.string (Ig.bs (Ig.print l).1), .int .i64 (Ig.print l).2]) w) := by
  have HL := Lib.hid h
  have HN := Lib.hid hn
  have HG := Lib.hid hgl
  have hx := Ext.refl w
  by_cases hbig : 100 < n
  · have hv : Ig.print l = ([], 4) := by unfold Ig.print; rw [if_pos (by omega)]
    have hbb : (100 : Int) < (n : Int) := by omega
    rw [hv]
    clear h hn hgl hv
    go_enter Tryz.func16, Tryz.ntmps16
    go_wp2_with fail
    go_ret2
    exact ⟨rfl, hx⟩
  have hbb : ¬ ((100 : Int) < (n : Int)) := by omega
  obtain ⟨R, hR⟩ : ∃ R, R = Ig.print l := ⟨_, rfl⟩
  have HR := Lib.hid hR
  rw [← hR]
  clear h hn hgl hR
  go_enter Tryz.func16, Tryz.ntmps16
  go_wp2_with fail
  go_loopw [13, 4] (fun u v wr => ∃ (k : Nat) (o : ByteArray), u = .int .i64 k ∧ v = .string o ∧ k ≤ n ∧ o.size ≤ k * 210 ∧ Hid (o.data.toList = Ig.textTo l k) ∧ Hid (∀ x ∈ l.take k, Ig.ruleErr x = 0) ∧ Hid (Ext w wr)) (fun u _ _ => n - (intOf u).toNat)
  case atStart => exact ⟨0, ⟨#[]⟩, rfl, rfl, Nat.zero_le _, Nat.zero_le _, Lib.hid rfl, Lib.hid (by simp), Lib.hid hx⟩
  case round =>
    clear hx
    rename World => wo
    obtain ⟨k, o, rfl, rfl, hk, hos, HO, HE, HX⟩ := hrel
    by_cases hlt : k < n
    · have hkl : k < l.length := by rw [HN.out]; exact hlt
      have e0 : l[k]? = some l[k] := List.getElem?_eq_getElem _
      obtain ⟨b, oo, cs, rfl, hbl, -, -, hr, hcs⟩ := HL.out.get e0
      obtain rfl : cs = _ := hcs
      have c0 := (HX.out.cell (p := ⟨b, oo + k * 4, none⟩) hbl).trans (hr 0 _ rfl)
      have c1 := (HX.out.cell (p := ⟨b, oo + k * 4 + 1, none⟩) hbl).trans (hr 1 _ rfl)
      have c2 := (HX.out.cell (p := ⟨b, oo + k * 4 + 2, none⟩) hbl).trans (hr 2 _ rfl)
      have c3 := (HX.out.cell (p := ⟨b, oo + k * 4 + 3, none⟩) hbl).trans (hr 3 _ rfl)
      have E0 := Lib.hid e0
      clear hr e0
      generalize l[k] = r at c0 c1 c2 c3 E0
      clear hkl
      obtain ⟨neg, dirOnly, anch, gb⟩ := r
      dsimp only at c0 c1 c2 c3
      have HX1 := Lib.hid (HX.out.alloc (.cells #[.bool neg, .bool dirOnly, .bool anch, .string gb] 60))
      obtain ⟨hcr, hfr, hlr⟩ := (Blk.new' (w := wo) (g := wo.heap.size) (cs := #[.bool neg, .bool dirOnly, .bool anch, .string gb]) (t := 60) rfl).all
      have hnk : l.length ≤ 100 := by rw [HN.out]; omega
      obtain ⟨gc, hgc⟩ : ∃ z, z = Ig.gcheck gb.data.toList := ⟨_, rfl⟩
      have HGC := Lib.hid hgc
      have HCH : Hid (∀ W, Ext w W → Calls Tryz.prog 40 #[.string gb] W (Ret (.int .i64 gc) W)) := Lib.hid fun W hW => by rw [hgc]; exact gcheck_any gb W (HG.out.ext hW)
      clear hgc
      go_wp2_with fail
      refine (HCH.out _ HX1.out).mono ?_
      rintro e w1 ⟨rfl, hx1⟩
      have HX2 := Lib.hid (HX1.out.trans hx1)
      have HB2 := Lib.hid (Blk.ext hx1 (Blk.new' (w := wo) (g := wo.heap.size) (cs := #[.bool neg, .bool dirOnly, .bool anch, .string gb]) (t := 60) rfl))
      clear hcr hfr hlr HX1 HX hx1 c0 c1 c2 c3 HCH
      obtain ⟨hcr, hfr, hlr⟩ := HB2.out.all
      cases hz : (gc != 0) with
      | true =>
        have hv : R = ([], gc) := by
          have h1 : Ig.ruleErr ⟨neg, dirOnly, anch, gb⟩ = gc := by
            unfold Ig.ruleErr
            dsimp only
            rw [← HGC.out, if_pos (by simpa using hz)]
          rw [HR.out, Ig.print_bad hnk HE.out E0.out (by rw [h1]; simpa using hz), h1]
        have HV := Lib.hid hv
        clear hv HR HE HO E0 HGC
        go_wp2_with fail
        go_ret2
        exact ⟨by rw [HV.out]; rfl, HX2.out⟩
      | false =>
        obtain rfl : gc = 0 := by simpa using hz
        have hgs : gb.size ≤ 200 := (Ig.gcheck_zero HGC.out.symm).1
        have hok : o.size ≤ 21000 := by omega
        obtain ⟨mk, hmk⟩ : ∃ z, z = Ig.marked gb.data.toList := ⟨_, rfl⟩
        obtain ⟨nl, hnl⟩ : ∃ z, z = gb.data.toList.contains 10 := ⟨_, rfl⟩
        obtain ⟨dp, hdp⟩ : ∃ z, z = Ig.deep gb.data.toList := ⟨_, rfl⟩
        have HMC : Hid (∀ W, Calls Tryz.prog 41 #[.string gb] W (Same (.bool mk) W)) := Lib.hid fun W => by rw [hmk]; exact marked_same gb W
        have HNC : Hid (∀ W, Calls Tryz.prog 45 #[.string gb, .string ⟨#[10]⟩] W (Same (.bool nl) W)) := Lib.hid fun W => by rw [hnl, ← contains_index]; exact Tryz.strings_Contains_one gb 10 W
        have HDC : Hid (∀ W, Calls Tryz.prog 46 #[.string gb] W (Same (.bool dp) W)) := Lib.hid fun W => by rw [hdp]; exact deep_same gb W
        have HRE : Hid (Ig.ruleErr ⟨neg, dirOnly, anch, gb⟩ = if (mk || nl || (!anch && dp)) = true then 1 else 0) := Lib.hid (by
          unfold Ig.ruleErr
          dsimp only
          rw [← HGC.out, if_neg (by decide), hmk, hnl, hdp])
        have HBO : Hid (Ig.body ⟨neg, dirOnly, anch, gb⟩ = Ig.opt 33 neg ++ (Ig.opt 47 (anch && !dp) ++ (gb.data.toList ++ Ig.opt 47 dirOnly))) := Lib.hid (by rw [hdp]; rfl)
        have HERR : Hid (Ig.ruleErr ⟨neg, dirOnly, anch, gb⟩ = 1 → R = ([], 1)) := Lib.hid fun h1 => by rw [HR.out, Ig.print_bad hnk HE.out E0.out (by rw [h1]; decide), h1]
        clear hmk hnl hdp hz HGC
        go_wp2_with fail
        refine (HMC.out _).mono ?_
        rintro e w2 ⟨rfl, rfl⟩
        cases mk with
        | true =>
          have HV := Lib.hid (HERR.out (by rw [HRE.out]; simp))
          clear HERR HR HE HO E0 HRE HBO
          go_wp2_with fail
          go_ret2
          exact ⟨by rw [HV.out]; rfl, HX2.out⟩
        | false =>
          go_wp2_with fail
          refine (HNC.out _).mono ?_
          rintro e w3 ⟨rfl, rfl⟩
          cases nl with
          | true =>
            have HV := Lib.hid (HERR.out (by rw [HRE.out]; simp))
            clear HERR HR HE HO E0 HRE HBO
            go_wp2_with fail
            go_ret2
            exact ⟨by rw [HV.out]; rfl, HX2.out⟩
          | false =>
            cases anch with
            | false =>
              go_wp2_with fail
              refine (HDC.out _).mono ?_
              rintro e w4 ⟨rfl, rfl⟩
              cases dp with
              | true =>
                have HV := Lib.hid (HERR.out (by rw [HRE.out]; simp))
                clear HERR HR HE HO E0 HRE HBO
                go_wp2_with fail
                go_ret2
                exact ⟨by rw [HV.out]; rfl, HX2.out⟩
              | false =>
                cases neg
                all_goals cases dirOnly
                all_goals
                  have HGO : Hid (Ig.ruleErr _ = 0) := Lib.hid (HRE.out.trans (by simp))
                  have HE2 : Hid (∀ x ∈ l.take (k + 1), Ig.ruleErr x = 0) := Lib.hid fun x hx => by
                    rw [take_snoc E0.out] at hx
                    rcases List.mem_append.1 hx with hx | hx
                    · exact HE.out x hx
                    · obtain rfl := List.mem_singleton.1 hx
                      exact HGO.out
                  have HT2 := Lib.hid (Ig.textTo_next E0.out)
                  rw [HBO.out, ← HO.out] at HT2
                  clear HERR HR HE HO HRE HBO HGO
                  go_wp2_with fail
                  all_goals first | (exfalso; omega) | skip
                  go_roundw
                  case rel => exact ⟨k + 1, _, rfl, rfl, hlt, by simp only [ByteArray.size_append, szB]; omega, Lib.hid (by rw [HT2.out]; simp only [Lapp, Ig.opt, List.append_assoc, List.nil_append, List.append_nil, Bool.not_true, Bool.not_false, Bool.and_true, Bool.and_false, Bool.true_and, Bool.false_and, List.cons_append]), HE2, HX2⟩
                  case measure => simp [intOf]; omega
            | true =>
              cases neg
              all_goals
                go_wp2_with fail
                all_goals first | (exfalso; omega) | skip
                refine (HDC.out _).mono ?_
                rintro e w4 ⟨rfl, rfl⟩
                cases dp
                all_goals cases dirOnly
                all_goals
                  have HGO : Hid (Ig.ruleErr _ = 0) := Lib.hid (HRE.out.trans (by simp))
                  have HE2 : Hid (∀ x ∈ l.take (k + 1), Ig.ruleErr x = 0) := Lib.hid fun x hx => by
                    rw [take_snoc E0.out] at hx
                    rcases List.mem_append.1 hx with hx | hx
                    · exact HE.out x hx
                    · obtain rfl := List.mem_singleton.1 hx
                      exact HGO.out
                  have HT2 := Lib.hid (Ig.textTo_next E0.out)
                  rw [HBO.out, ← HO.out] at HT2
                  clear HERR HR HE HO HRE HBO HGO
                  go_wp2_with fail
                  all_goals first | (exfalso; omega) | skip
                  go_roundw
                  case rel => exact ⟨k + 1, _, rfl, rfl, hlt, by simp only [ByteArray.size_append, szB]; omega, Lib.hid (by rw [HT2.out]; simp only [Lapp, Ig.opt, List.append_assoc, List.nil_append, List.append_nil, Bool.not_true, Bool.not_false, Bool.and_true, Bool.and_false, Bool.true_and, Bool.false_and, List.cons_append]), HE2, HX2⟩
                  case measure => simp [intOf]; omega
    · obtain rfl : k = n := by omega
      have hv : R = (Ig.textTo l l.length, 0) := by rw [HR.out]; exact Ig.print_good (by rw [HN.out]; omega) (by have := HE.out; rwa [← HN.out, List.take_length] at this)
      have hv2 : Ig.bs R.1 = o := by
        rw [hv]
        show Ig.bs (Ig.textTo l l.length) = o
        rw [HN.out, ← HO.out]
        rfl
      have hv3 : R.2 = 0 := by rw [hv]
      have HV2 := Lib.hid hv2
      have HV3 := Lib.hid hv3
      clear hv hv2 hv3 HR HE HO
      go_wp2_with fail
      go_ret2
      exact ⟨by rw [HV2.out, HV3.out]; rfl, HX.out⟩
end Go.Proofs.YtnjcifppkijanaaGreatDoor
namespace Go.Proofs.YtnjcifppkijanaaGreatDoor
open Go Go.RowKit Go.Shelf

/-- What the walks ask of files. -/
structure Ig.Fits (l : List Ig.Fi) : Prop where
  dirs : ∀ f ∈ l, f.dir.size ≤ 1000000
  rules : ∀ f ∈ l, f.rules.length ≤ 1000000
namespace Ig
/-- The directory before. -/
def prevD (l : List Fi) : Nat → Option ByteArray
  | 0 => none
  | k + 1 => (l[k]?).map (·.dir)
theorem disorder_prev {l : List Fi} {k : Nat} {g : Fi} (h : l[k]? = some g) (e : ByteArray) : disorder (prevD l (k + 1)) e = (Op.bytesLess e.toList g.dir.toList || e.toList == g.dir.toList) := by
  show disorder ((l[k]?).map (·.dir)) e = _
  rw [h]
  show (!Tr.lt g.dir e) = _
  unfold Tr.lt
  rcases Tr.lt_or g.dir e with h1 | rfl | h1
  · have h2 := Tr.lt_asymm h1
    have h3 := Tr.lt_ne h1
    unfold Tr.lt at h1 h2
    rw [h1, h2]
    have : (e.toList == g.dir.toList) = false := beq_eq_false_iff_ne.2 fun e2 => h3 (Qm.toList_inj e2.symm)
    rw [this]
    rfl
  · have h2 := Tr.lt_irrefl g.dir
    unfold Tr.lt at h2
    rw [h2]
    simp
  · have h2 := Tr.lt_asymm h1
    unfold Tr.lt at h1 h2
    rw [h1, h2]
    rfl
theorem fgo_at {l : List Fi} {k : Nat} {f : Fi} (h : l[k]? = some f) : fgo (prevD l k) (l.drop k) = if (!(f.dir.toList == []) && !Qm.isPath f.dir) = true then 5 else if disorder (prevD l k) f.dir = true then 9 else if (print f.rules).2 ≠ 0 then (print f.rules).2 else fgo (prevD l (k + 1)) (l.drop (k + 1)) := by
  obtain ⟨h2, h3⟩ := List.getElem?_eq_some_iff.1 h
  rw [List.drop_eq_getElem_cons h2, h3]
  show (if (!(f.dir.toList == []) && !Qm.isPath f.dir) = true then 5 else if disorder (prevD l k) f.dir = true then 9 else if (print f.rules).2 ≠ 0 then (print f.rules).2 else fgo (some f.dir) (l.drop (k + 1))) = _
  have : prevD l (k + 1) = some f.dir := by show (l[k]?).map (·.dir) = _; rw [h]; rfl
  rw [this]
end Ig
set_option maxHeartbeats 8000000 in
set_option maxRecDepth 100000 in
theorem icheck_any (A : Option Addr) (n c : Nat) (l : List Ig.Fi) (w : World) {F : Nat → Prop} (h : Fis w F A l) (hn : l.length = n) (hb : n ≤ 1000000000) (hf : Ig.Fits l) (hgl : Glob w) :
    Calls Tryz.prog 18 #[.slice A n c] w (Ret (.int .i64 (Ig.fcheck l)) w) := by
  have HL := Lib.hid h
  have HN := Lib.hid hn
  have HG := Lib.hid hgl
  have HF := Lib.hid hf
  have hx := Ext.refl w
  by_cases hbig : 200 < n
  · have hv : Ig.fcheck l = 4 := by unfold Ig.fcheck; rw [if_pos (by omega)]
    have hbb : (200 : Int) < (n : Int) := by omega
    rw [hv]
    clear h hn hgl hv hf
    go_enter Tryz.func18, Tryz.ntmps18
    go_wp2_with fail
    go_ret
    exact ⟨rfl, hx⟩
  have hbb : ¬ ((200 : Int) < (n : Int)) := by omega
  obtain ⟨R, hR⟩ : ∃ R, R = Ig.fcheck l := ⟨_, rfl⟩
  have HR : Hid (R = Ig.fgo (Ig.prevD l 0) (l.drop 0)) := Lib.hid (by rw [hR]; unfold Ig.fcheck; rw [if_neg (by omega)]; rfl)
  rw [← hR]
  clear h hn hgl hR hf
  go_enter Tryz.func18, Tryz.ntmps18
  go_wp2_with fail
  go_loopw [12] (fun u wr => ∃ k : Nat, u = .int .i64 k ∧ k ≤ n ∧ Hid (R = Ig.fgo (Ig.prevD l k) (l.drop k)) ∧ Hid (Ext w wr)) (fun u _ => n - (intOf u).toNat)
  case atStart => exact ⟨0, rfl, Nat.zero_le _, HR, Lib.hid hx⟩
  case round =>
    clear hx HR
    rename World => wo
    obtain ⟨k, rfl, hk, HR, HX⟩ := hrel
    by_cases hlt : k < n
    · have hkl : k < l.length := by rw [HN.out]; exact hlt
      have e0 : l[k]? = some l[k] := List.getElem?_eq_getElem _
      have hfd := HF.out.dirs _ (List.getElem_mem hkl)
      have hfr' := HF.out.rules _ (List.getElem_mem hkl)
      obtain ⟨b, oo, cs, rfl, hbl, -, -, hr, A', n', m', rfl, hn', hnm', hru⟩ := HL.out.get e0
      have hr0 := hr 0 _ rfl
      have c0 := (HX.out.cell (p := ⟨b, oo + k * 2, none⟩) hbl).trans hr0
      have c1 := (HX.out.cell (p := ⟨b, oo + k * 2 + 1, none⟩) hbl).trans (hr 1 _ rfl)
      have hst : ∃ v : Bool, v = Ig.disorder (Ig.prevD l k) l[k].dir ∧ (k = 0 ∨ (0 < k ∧ ∃ g : Ig.Fi, w.cell? ⟨b, oo + (k - 1) * 2, none⟩ = some (.string g.dir) ∧ (Op.bytesLess l[k].dir.toList g.dir.toList || l[k].dir.toList == g.dir.toList) = v)) := by
        refine ⟨_, rfl, ?_⟩
        rcases k with _ | j
        · exact .inl rfl
        · have hj : j < l.length := by omega
          have hg : l[j]? = some (l[j]'hj) := List.getElem?_eq_getElem hj
          obtain ⟨b', o', cs', e', _, _, _, hr', A2, n2, m2, rfl, _⟩ := HL.out.get hg
          cases e'
          exact .inr ⟨Nat.succ_pos _, _, hr' 0 _ rfl, (Ig.disorder_prev hg _).symm⟩
      have E0 := Lib.hid e0
      have HRU := Lib.hid hru
      clear hr e0 hru
      generalize l[k] = f at hr0 c0 c1 hst E0 HRU hn' hfd hfr'
      clear hkl
      obtain ⟨dir, rules⟩ := f
      dsimp only at hr0 c0 c1 hst HRU hn' hfd hfr'
      obtain ⟨v, hv, hst⟩ := hst
      have HGO := Lib.hid (HR.out.trans (Ig.fgo_at E0.out))
      dsimp only at HGO
      rw [← hv] at HGO
      obtain ⟨ip, hip⟩ : ∃ z, z = Qm.isPath dir := ⟨_, rfl⟩
      obtain ⟨pe, hpe⟩ : ∃ z, z = (Ig.print rules).2 := ⟨_, rfl⟩
      rw [← hip, ← hpe] at HGO
      have HIP : Hid (∀ W, Ext w W → Calls Tryz.prog 49 #[.string dir] W (Ret (.bool ip) W)) := Lib.hid fun W hW => by rw [hip]; exact iisPath_any dir W (HG.out.ext hW) (by omega)
      have HPR : Hid (∀ W, Ext w W → Calls Tryz.prog 16 #[.slice A' n' m'] W (Ret (.tuple #[.string (Ig.bs (Ig.print rules).1), .int .i64 pe]) W)) := Lib.hid fun W hW => by rw [hpe]; exact print_any A' n' m' rules W (Sls.ext RuR.steadfast HRU.out hW) hn' (by omega) (HG.out.ext hW)
      have HX1 := Lib.hid (HX.out.alloc (.cells #[.string dir, .slice A' n' m'] 32))
      have HB1 := Lib.hid (Blk.new' (w := wo) (g := wo.heap.size) (cs := #[.string dir, .slice A' n' m']) (t := 32) rfl)
      have hwb : b < wo.heap.size := Nat.lt_of_lt_of_le hbl HX.out.size_le
      clear hip hpe HR hn'
      generalize Ig.bs (Ig.print rules).1 = ps at HPR
      obtain ⟨hcr, hfr, hlr⟩ := HB1.out.all
      have c0w := hr0
      have HVZ : Hid (k = 0 → v = false) := Lib.hid fun e => by rw [hv, e]; rfl
      clear hv
      have h6 : (dir.toList == []) = false ∨ (dir.toList == []) = true := by cases (dir.toList == []) <;> simp
      rcases h6 with h6 | h6
      · rw [h6] at HGO
        go_wp2_with fail
        refine (HIP.out _ HX1.out).mono ?_
        rintro e w1 ⟨rfl, hx1⟩
        have HX9 := Lib.hid (HX1.out.trans hx1)
        have HB9 := Lib.hid (Blk.ext hx1 HB1.out)
        clear hcr hfr hlr HX1 HB1 HX hx1 c0 c1 HIP
        cases ip with
        | false =>
          have HV : Hid (R = 5) := Lib.hid (by rw [HGO.out]; rfl)
          clear HGO HVZ hst
          go_wp2_with fail
          go_ret
          exact ⟨by rw [HV.out]; rfl, HX9.out⟩
        | true =>
          obtain ⟨hcr, hfr, hlr⟩ := HB9.out.all
          have d0 := (HX9.out.cell (p := ⟨b, oo + k * 2, none⟩) hbl).trans c0w
          rcases hst with rfl | ⟨hk0, g, cg, hle⟩
          · have hv0 : v = false := HVZ.out rfl
            subst hv0
            go_wp2_with (go_quiet (fail))
            refine (HPR.out _ (Ext.drewN HX9.out _)).mono ?_
            rintro e w2 ⟨rfl, hx2⟩
            have HX3 := Lib.hid ((Ext.drewN HX9.out _).trans hx2)
            clear hcr hfr hlr HX9 HB9 hx2 HPR d0
            cases hz : (pe != 0) with
            | true =>
              have HV : Hid (R = pe) := Lib.hid (by rw [HGO.out]; simp only [Bool.false_and, Bool.not_true, Bool.and_false, Bool.not_false, Bool.true_and, Bool.false_eq_true, if_false]; rw [if_pos (by simpa using hz)])
              clear HGO HVZ
              go_wp2_with fail
              go_ret
              exact ⟨by rw [HV.out]; rfl, HX3.out⟩
            | false =>
              obtain rfl : pe = 0 := by simpa using hz
              clear HVZ hz
              go_wp2_with fail
              go_roundw
              case rel => exact ⟨_, rfl, hlt, Lib.hid (HGO.out.trans (by rfl)), HX3⟩
              case measure => simp [intOf]; omega
          · have y1 : IntKind.i64.wrap ((k : Int) - 1) = (k : Int) - 1 := IntWalk.i64_in _ (by omega)
            have y2 : (0 : Int) ≤ (k : Int) - 1 := by omega
            have y3 : ((k : Int) - 1).toNat = k - 1 := by omega
            have y4 : ((k : Int) - 1) < n := by omega
            have y5 : (0 : Int) < k := by omega
            have cp := (HX9.out.cell (p := ⟨b, oo + (k - 1) * 2, none⟩) hbl).trans cg
            cases v with
            | true =>
              have HV : Hid (R = 9) := Lib.hid (by rw [HGO.out]; rfl)
              clear HGO HVZ
              go_wp2_with (go_quiet (fail))
              go_ret
              exact ⟨by rw [HV.out]; rfl, Ext.drewN HX9.out _⟩
            | false =>
              go_wp2_with (go_quiet (fail))
              refine (HPR.out _ (Ext.drewN HX9.out _)).mono ?_
              rintro e w2 ⟨rfl, hx2⟩
              have HX3 := Lib.hid ((Ext.drewN HX9.out _).trans hx2)
              clear hcr hfr hlr HX9 HB9 hx2 HPR d0
              cases hz : (pe != 0) with
              | true =>
                have HV : Hid (R = pe) := Lib.hid (by rw [HGO.out]; simp only [Bool.false_and, Bool.not_true, Bool.and_false, Bool.not_false, Bool.true_and, Bool.false_eq_true, if_false]; rw [if_pos (by simpa using hz)])
                clear HGO HVZ
                go_wp2_with fail
                go_ret
                exact ⟨by rw [HV.out]; rfl, HX3.out⟩
              | false =>
                obtain rfl : pe = 0 := by simpa using hz
                clear HVZ hz
                go_wp2_with fail
                go_roundw
                case rel => exact ⟨_, rfl, hlt, Lib.hid (HGO.out.trans (by rfl)), HX3⟩
                case measure => simp [intOf]; omega
      · rw [h6] at HGO
        have HX9 := HX1
        have HB9 := HB1
        go_wp2_with fail
        clear hcr hfr hlr HX1 HB1 HX c0 c1 HIP
        obtain ⟨hcr, hfr, hlr⟩ := HB9.out.all
        have d0 := (HX9.out.cell (p := ⟨b, oo + k * 2, none⟩) hbl).trans c0w
        rcases hst with rfl | ⟨hk0, g, cg, hle⟩
        · have hv0 : v = false := HVZ.out rfl
          subst hv0
          go_wp2_with (go_quiet (fail))
          refine (HPR.out _ (Ext.drewN HX9.out _)).mono ?_
          rintro e w2 ⟨rfl, hx2⟩
          have HX3 := Lib.hid ((Ext.drewN HX9.out _).trans hx2)
          clear hcr hfr hlr HX9 HB9 hx2 HPR d0
          cases hz : (pe != 0) with
          | true =>
            have HV : Hid (R = pe) := Lib.hid (by rw [HGO.out]; simp only [Bool.false_and, Bool.not_true, Bool.and_false, Bool.not_false, Bool.true_and, Bool.false_eq_true, if_false]; rw [if_pos (by simpa using hz)])
            clear HGO HVZ
            go_wp2_with fail
            go_ret
            exact ⟨by rw [HV.out]; rfl, HX3.out⟩
          | false =>
            obtain rfl : pe = 0 := by simpa using hz
            clear HVZ hz
            go_wp2_with fail
            go_roundw
            case rel => exact ⟨_, rfl, hlt, Lib.hid (HGO.out.trans (by rfl)), HX3⟩
            case measure => simp [intOf]; omega
        · have y1 : IntKind.i64.wrap ((k : Int) - 1) = (k : Int) - 1 := IntWalk.i64_in _ (by omega)
          have y2 : (0 : Int) ≤ (k : Int) - 1 := by omega
          have y3 : ((k : Int) - 1).toNat = k - 1 := by omega
          have y4 : ((k : Int) - 1) < n := by omega
          have y5 : (0 : Int) < k := by omega
          have cp := (HX9.out.cell (p := ⟨b, oo + (k - 1) * 2, none⟩) hbl).trans cg
          cases v with
          | true =>
            have HV : Hid (R = 9) := Lib.hid (by rw [HGO.out]; rfl)
            clear HGO HVZ
            go_wp2_with (go_quiet (fail))
            go_ret
            exact ⟨by rw [HV.out]; rfl, Ext.drewN HX9.out _⟩
          | false =>
            go_wp2_with (go_quiet (fail))
            refine (HPR.out _ (Ext.drewN HX9.out _)).mono ?_
            rintro e w2 ⟨rfl, hx2⟩
            have HX3 := Lib.hid ((Ext.drewN HX9.out _).trans hx2)
            clear hcr hfr hlr HX9 HB9 hx2 HPR d0
            cases hz : (pe != 0) with
            | true =>
              have HV : Hid (R = pe) := Lib.hid (by rw [HGO.out]; simp only [Bool.false_and, Bool.not_true, Bool.and_false, Bool.not_false, Bool.true_and, Bool.false_eq_true, if_false]; rw [if_pos (by simpa using hz)])
              clear HGO HVZ
              go_wp2_with fail
              go_ret
              exact ⟨by rw [HV.out]; rfl, HX3.out⟩
            | false =>
              obtain rfl : pe = 0 := by simpa using hz
              clear HVZ hz
              go_wp2_with fail
              go_roundw
              case rel => exact ⟨_, rfl, hlt, Lib.hid (HGO.out.trans (by rfl)), HX3⟩
              case measure => simp [intOf]; omega
    · obtain rfl : k = n := by omega
      have hv : R = 0 := by rw [HR.out, List.drop_eq_nil_iff.2 (by rw [HN.out]; exact Nat.le_refl _)]; cases Ig.prevD l k <;> rfl
      subst hv
      clear HR
      go_wp2_with fail
      go_ret
      exact ⟨rfl, HX.out⟩
end Go.Proofs.YtnjcifppkijanaaGreatDoor
namespace Go.Proofs.YtnjcifppkijanaaGreatDoor
open Go Go.RowKit Go.Shelf

namespace Ig
theorem path_size {s : ByteArray} (h : Qm.isPath s = true) : s.size ≤ 200 := by
  unfold Qm.isPath at h
  rw [Bool.and_eq_true, decide_eq_true_iff] at h
  exact h.1
/-- A path's part within a directory, as the walks say it. -/
def restV (dir p : ByteArray) : ByteArray × Bool := if (dir.toList == []) = true then (p, true) else (⟨(Lib.trimPrefix p.data.toList (dir.data.toList ++ [47])).toArray⟩, Lib.hasPrefix p.data.toList (dir.data.toList ++ [47]))
theorem restV_eq (dir p : ByteArray) : rest (L dir) (L p) = if (restV dir p).2 = true then some (L (restV dir p).1) else none := by
  unfold rest restV
  have h0 : (dir.toList == []) = decide (L dir = []) := by
    rw [ByteArray.toList_eq]
    by_cases h : dir.data.toList = []
    · rw [show L dir = dir.data.toList from rfl, h]; rfl
    · rw [decide_eq_false h]; exact beq_eq_false_iff_ne.2 h
  rw [h0]
  by_cases h : L dir = []
  · rw [decide_eq_true h, if_pos h]
    simp only [if_true]
  · rw [decide_eq_false h, if_neg h]
    simp only [Bool.false_eq_true, if_false]
    unfold Lib.trimPrefix
    unfold Lib.hasPrefix
    by_cases hp : (L dir ++ [47]).isPrefixOf (L p) = true
    · rw [if_pos hp, if_pos hp, if_pos hp]
      simp [L]
    · rw [if_neg hp, if_neg hp]
theorem restV_size (dir p : ByteArray) : (restV dir p).1.size ≤ p.size := by
  unfold restV
  split
  · exact Nat.le_refl _
  · show (Lib.trimPrefix p.data.toList _).toArray.size ≤ p.data.size
    unfold Lib.trimPrefix
    split <;> simp
theorem drop_last (s : ByteArray) : (L s).drop (Lib.lastIndexByte s 47 + 1).toNat = lastN (L s) := by
  rcases Pa.last_slash s with ⟨h0, hn⟩ | ⟨i, name, hi, hlt, hs, hn, hd⟩
  · rw [lastN_none hn, show (Lib.lastIndexByte s 47 + 1).toNat = 0 by omega]
    rfl
  · rw [hi, show ((i : Int) + 1).toNat = i + 1 by omega, ← List.drop_drop, hd]
    conv => rhs; rw [show L s = Pa.L s from rfl, hs]
    rw [lastN_slash hn]
    rfl
theorem lastIndex_bounds (s : ByteArray) : -1 ≤ Lib.lastIndexByte s 47 ∧ Lib.lastIndexByte s 47 < s.size := by
  refine ⟨?_, Qm.lastIndex_lt s⟩
  rcases Lib.lastIndexByte_spec s 47 with ⟨h, -⟩ | ⟨i, -, h, -⟩ <;> omega
theorem L_extract_end (s : ByteArray) (k : Nat) : L (s.extract k s.size) = (L s).drop k := by
  show (s.extract k s.size).data.toList = s.data.toList.drop k
  rw [ByteArray.data_extract, Array.toList_extract, List.extract_eq_take_drop]
  exact List.take_of_length_le (by rw [List.length_drop]; exact Nat.le_refl _)
end Ig

set_option maxHeartbeats 1000000 in
set_option maxRecDepth 100000 in
theorem rest_any (p : ByteArray) (d : Bool) (dir : ByteArray) (w : World) (hd : dir.size ≤ 1000000) :
    Calls Tryz.prog 129 #[.agg #[.string p, .bool d], .string dir] w (Ret (.tuple #[.string (Ig.restV dir p).1, .bool (Ig.restV dir p).2]) w) := by
  have hx := Ext.refl w
  have HX1 := Lib.hid (hx.alloc (.cells #[.string p, .bool d] 98))
  obtain ⟨hcr, hfr, hlr⟩ := (Blk.new' (w := w) (g := w.heap.size) (cs := #[.string p, .bool d]) (t := 98) rfl).all
  obtain ⟨v, hv⟩ : ∃ v, v = Ig.restV dir p := ⟨_, rfl⟩
  rw [← hv]
  unfold Ig.restV at hv
  have h6 : (dir.toList == []) = false ∨ (dir.toList == []) = true := by cases (dir.toList == []) <;> simp
  rcases h6 with h6 | h6
  · rw [h6, if_neg (by decide)] at hv
    have HV := Lib.hid hv
    clear hv
    go_enter Tryz.func129, Tryz.ntmps129
    go_wp2_with fail
    refine (Tryz.strings_CutPrefix p _ _).mono ?_
    rintro e w1 ⟨rfl, rfl⟩
    go_wp2_with fail
    go_ret2
    exact ⟨by rw [HV.out]; rfl, HX1.out⟩
  · rw [h6, if_pos rfl] at hv
    rw [hv]
    clear hv
    go_enter Tryz.func129, Tryz.ntmps129
    go_wp2_with fail
    go_ret2
    exact ⟨rfl, HX1.out⟩

/-- What a pattern of a file's directory says of a path. -/
theorem Ig.fitsR_eq (dir p : ByteArray) (d : Bool) (r : Ig.Ru) : Ig.fitsR (Ig.L dir) (Ig.L p) d r = (!(!(Ig.restV dir p).2 || (r.dirOnly && !d)) && Ig.gmatch (Ig.L r.glob) (if r.anch then Ig.L (Ig.restV dir p).1 else Ig.lastN (Ig.L p))) := by
  unfold Ig.fitsR
  rw [Ig.restV_eq]
  cases (Ig.restV dir p).2
  · rfl
  · simp
set_option maxHeartbeats 4000000 in
set_option maxRecDepth 100000 in
theorem pfits_any (r : Ig.Ru) (dir p : ByteArray) (d : Bool) (w : World) (hd : dir.size ≤ 1000000) (hp : p.size ≤ 200) (hgl : Glob w) :
    Calls Tryz.prog 104 #[.agg #[.bool r.neg, .bool r.dirOnly, .bool r.anch, .string r.glob, .string dir], .agg #[.string p, .bool d]] w (Ret (.bool (Ig.fitsR (Ig.L dir) (Ig.L p) d r)) w) := by
  rw [Ig.fitsR_eq]
  obtain ⟨neg, dirOnly, anch, gb⟩ := r
  dsimp only
  have hsz := Ig.restV_size dir p
  have HRS : Hid (∀ W, Calls Tryz.prog 129 #[.agg #[.string p, .bool d], .string dir] W (Ret (.tuple #[.string (Ig.restV dir p).1, .bool (Ig.restV dir p).2]) W)) := Lib.hid fun W => rest_any p d dir W hd
  generalize Ig.restV dir p = rv at hsz HRS ⊢
  obtain ⟨rs, ok⟩ := rv
  dsimp only at hsz HRS ⊢
  obtain ⟨R, hR⟩ : ∃ R : Bool, R = (!(!ok || (dirOnly && !d)) && Ig.gmatch (Ig.L gb) (if anch then Ig.L rs else Ig.lastN (Ig.L p))) := ⟨_, rfl⟩
  rw [← hR]
  have HR := Lib.hid hR
  clear hR
  have HG := Lib.hid hgl
  have HGM : Hid (∀ s : ByteArray, s.size ≤ 200 → ∀ W, Ext w W → Calls Tryz.prog 132 #[.string gb, .string s] W (Ret (.bool (Ig.gmatch (Ig.L gb) (Ig.L s))) W)) := Lib.hid fun s hs W hW => match_any gb s W hs (HG.out.ext hW)
  clear hgl
  have hx := Ext.refl w
  have HX1 := Lib.hid ((hx.alloc (.cells #[.bool neg, .bool dirOnly, .bool anch, .string gb, .string dir] 139)).alloc (.cells #[.string p, .bool d] 98))
  have HB1 := Lib.hid (Blk.alloc (Blk.new' (w := w) (g := w.heap.size) (cs := #[.bool neg, .bool dirOnly, .bool anch, .string gb, .string dir]) (t := 139) rfl) (.cells #[.string p, .bool d] 98))
  have HB2 := Lib.hid (Blk.new' (w := w.alloc (.cells #[.bool neg, .bool dirOnly, .bool anch, .string gb, .string dir] 139)) (g := w.heap.size + 1) (cs := #[.string p, .bool d]) (t := 98) (by simp))
  obtain ⟨hcr, hfr, hlr⟩ := HB1.out.all
  obtain ⟨hcs, hfs, hls⟩ := HB2.out.all
  go_enter Tryz.func104, Tryz.ntmps104
  go_wp2_with fail
  refine (HRS.out _).mono ?_
  rintro e w1 ⟨rfl, hx1⟩
  have HX2 := Lib.hid (HX1.out.trans hx1)
  have HB3 := Lib.hid (Blk.ext hx1 HB1.out)
  have HB4 := Lib.hid (Blk.ext hx1 HB2.out)
  clear hcr hfr hlr hcs hfs hls HX1 HB1 HB2 hx1 hx HRS
  obtain ⟨hcr, hfr, hlr⟩ := HB3.out.all
  obtain ⟨hcs, hfs, hls⟩ := HB4.out.all
  have HC0 : Hid (∀ W, Ext w1 W → (∀ i : Nat, W.cell? ⟨w.heap.size + 1, i, none⟩ = #[.string p, .bool d][i]?) ∧ (∀ i : Nat, W.frozen? ⟨w.heap.size + 1, i, none⟩ = false) ∧ w.heap.size + 1 < W.heap.size) := Lib.hid fun W hW => (Blk.ext hW HB4.out).all
  cases ok with
  | false =>
    go_wp2_with fail
    go_ret
    exact ⟨by rw [HR.out]; rfl, HX2.out⟩
  | true =>
    by_cases hbad : (dirOnly && !d) = true
    · obtain ⟨rfl, hd2⟩ := by simpa using hbad
      subst hd2
      go_wp2_with fail
      go_ret
      exact ⟨by rw [HR.out]; rfl, HX2.out⟩
    · cases anch with
      | true =>
        cases dirOnly
        all_goals cases d
        all_goals first | (exact absurd rfl hbad) | skip
        all_goals
          go_wp2_with fail
          refine (HGM.out _ (by omega) _ HX2.out).mono ?_
          rintro e w2 ⟨rfl, hx2⟩
          have HX3 := Lib.hid (HX2.out.trans hx2)
          clear hcr hfr hlr hcs hfs hls HX2 hx2
          go_wp2_with fail
          go_ret
          exact ⟨by rw [HR.out]; simp, HX3.out⟩
      | false =>
        cases dirOnly
        all_goals cases d
        all_goals first | (exact absurd rfl hbad) | skip
        all_goals
          have HLA : Hid (∀ W : World, Calls Tryz.prog 131 #[.string p, .string ⟨#[47]⟩] W (Same (.int .i64 (Lib.lastIndexByte p 47)) W)) := Lib.hid fun W => Tryz.strings_LastIndex_one p ⟨#[47]⟩ rfl (by omega) W
          have hlb := Ig.lastIndex_bounds p
          have hdl : Hid (Ig.L (p.extract (Lib.lastIndexByte p 47 + 1).toNat p.size) = Ig.lastN (Ig.L p)) := Lib.hid (by rw [← Ig.drop_last p]; exact Ig.L_extract_end _ _)
          generalize Lib.lastIndexByte p 47 = j at HLA hlb hdl
          obtain ⟨j, rfl⟩ : ∃ k : Nat, j = (k : Int) - 1 := ⟨(j + 1).toNat, by omega⟩
          have y1 : IntKind.i64.wrap (j : Int) = (j : Int) := IntWalk.i64_in _ (by omega)
          have y2 : (j : Int) ≤ p.size := by omega
          have y3 : j ≤ p.size := by omega
          rw [show ((j : Int) - 1 + 1).toNat = j by omega] at hdl
          clear hlb
          go_wp2_with fail
          refine wp_region_ext (by kernel_rfl) (by kernel_rfl) ?_
          repeat (first | go_big_quiet_skip | (go_big_quiet_want; first | (go_big_quiet_op; go_big_quiet_on) | (apply quiet_at; intro W' hW; obtain ⟨q0, q1, q2⟩ := HC0.out W' hW; go_simp; (first | exact rfl | (simp only [Oper.quietUpon, true_and]; first | exact rfl | (exact quiet_call hW (HLA.out W') (fun _ _ h => ⟨h.1, h.2 ▸ Ext.refl _⟩))) | (exact quiet_call hW (HLA.out W') (fun _ _ h => ⟨h.1, h.2 ▸ Ext.refl _⟩))); go_big_quiet_on; simp only [Act.put, sA, s0, sS])))
          refine wpQuiet_nil ?_
          intro w2 hx2
          have HX3 := Lib.hid (HX2.out.trans hx2)
          have HB5 := Lib.hid (Blk.ext hx2 HB3.out)
          clear hcr hfr hlr hcs hfs hls HX2 hx2
          obtain ⟨hcr, hfr, hlr⟩ := HB5.out.all
          have hez : (p.extract j p.size).size ≤ 200 := by rw [ByteArray.size_extract]; omega
          have HM2 := Lib.hid (HGM.out _ hez)
          rw [hdl.out] at HM2
          generalize p.extract j p.size = q at HM2
          clear hez hdl
          go_wp2_with fail
          refine (HM2.out _ HX3.out).mono ?_
          rintro e w3 ⟨rfl, hx3⟩
          have HX4 := Lib.hid (HX3.out.trans hx3)
          clear hcr hfr hlr HX3 hx3
          go_wp2_with fail
          go_ret
          exact ⟨by rw [HR.out]; simp, HX4.out⟩
end Go.Proofs.YtnjcifppkijanaaGreatDoor
