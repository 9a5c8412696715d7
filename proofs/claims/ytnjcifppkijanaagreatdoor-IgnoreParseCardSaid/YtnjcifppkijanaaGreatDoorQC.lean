/- Walks: the reference: a line read. Walks: the reference: a text parsed into rules. Walks: IgnoreParse. -/
import Derived.Test.YtnjcifppkijanaaGreatDoorQB
import Derived.Test.YtnjcifppkijanaaGreatDoorPK
import Derived.Test.YtnjcifppkijanaaGreatDoorPL
set_option linter.unusedSimpArgs false
set_option linter.unusedVariables false
namespace Go.Proofs.YtnjcifppkijanaaGreatDoor
open Go Go.RowKit Go.Shelf
theorem rule_of {l a b g : List UInt8} {n an d : Bool} (h1 : Ig.cutP 33 l = (a, n)) (h2 : Ig.cutP 47 a = (b, an)) (h3 : Ig.cutS 47 b = (g, d)) : Ig.rule l = ⟨n, d, an || Ig.deep g, Ig.bs g⟩ := by
  unfold Ig.rule
  simp only [h1, h2, h3]
theorem L_empty {X : ByteArray} (h : Ig.L X = []) : (X.toList == ([] : List UInt8)) = true := by rw [ByteArray.toList_eq]; simpa using h
theorem L_cons {X : ByteArray} {c : UInt8} {t : List UInt8} (h : Ig.L X = c :: t) : (X.toList == ([] : List UInt8)) = false ∧ ∃ h0 : 0 < X.size, X[0] = c := by
  have hs : X.size = (Ig.L X).length := rfl
  have h0 : 0 < X.size := by rw [hs, h]; simp
  refine ⟨by rw [ByteArray.toList_eq]; show (Ig.L X == []) = false; rw [h]; rfl, h0, ?_⟩
  have h1 : (Ig.L X)[0]? = some c := by rw [h]; rfl
  rw [byteAt X h0] at h1
  exact Option.some.inj h1
theorem L_tail {X : ByteArray} {c : UInt8} {t : List UInt8} (h : Ig.L X = c :: t) : Ig.L (X.extract 1 X.size) = t := by
  have := Pa.L_extract X 1 X.size
  rw [show Ig.L (X.extract 1 X.size) = Pa.L (X.extract 1 X.size) from rfl, this, List.take_of_length_le (show (Pa.L X).length ≤ X.size from Nat.le_refl _)]
  show (Ig.L X).drop 1 = t
  rw [h]
  rfl
theorem L_last {X : ByteArray} {l : List UInt8} {m : Nat} (h : Ig.L X = l) (hm : X.size = m + 1) : ∃ h0 : m < X.size, l.getLast? = some X[m] ∧ Ig.L (X.extract 0 m) = l.dropLast := by
  have h0 : m < X.size := by omega
  have hs : l.length = m + 1 := by rw [← hm, ← h]; rfl
  refine ⟨h0, ?_, ?_⟩
  · rw [List.getLast?_eq_getElem?, hs, ← h]
    exact byteAt X h0
  · rw [show Ig.L (X.extract 0 m) = Pa.L (X.extract 0 m) from rfl, Pa.L_extract X 0 m]
    show (((Ig.L X).take m).drop 0) = _
    rw [h, List.drop_zero, List.dropLast_eq_take, hs]
    rfl
/-- What read hands back. -/
def RulF (l : List UInt8) (w : World) (e : Ending) (w' : World) : Prop := e = .returned (.agg #[.bool (Ig.rule l).neg, .bool (Ig.rule l).dirOnly, .bool (Ig.rule l).anch, .string (Ig.rule l).glob]) ∧ Ext w w'
set_option maxHeartbeats 32000000 in
set_option maxRecDepth 100000 in
/-- quiltref39.read. -/
theorem rread_any (s : ByteArray) (w : World) (hs : s.size ≤ 1000000) : Calls Tryz.prog 42 #[.string s] w (RulF (Ig.L s) w) := by
  have hx := Ext.refl w
  obtain ⟨l0, hl0⟩ : ∃ l, Ig.L s = l := ⟨_, rfl⟩
  have HL0 := Lib.hid hl0
  have hs0 := hs
  clear hl0
  cases l0 with
  | nil =>
    have hq1 := L_empty HL0.out
    have HC2 : Hid (Ig.cutP 33 ([] : List UInt8) = ([], false)) := Lib.hid rfl
    have HC3 : Hid (Ig.cutP 47 ([] : List UInt8) = ([], false)) := Lib.hid rfl
    have HC4 : Hid (Ig.cutS 47 ([] : List UInt8) = ([], false)) := Lib.hid rfl
    have HRU := Lib.hid (rule_of HC2.out HC3.out HC4.out)
    have HXB : Hid (Ig.bs [] = s) := Lib.hid (by rw [← HL0.out]; rfl)
    have HHA : Hid (∀ W, Calls Tryz.prog 48 #[.string s, .int .u8 47] W (Ret (.bool ((Ig.L s).contains 47)) W)) := Lib.hid fun W => rhas_any s 47 W (by omega)
    obtain ⟨dp, hdp⟩ : ∃ z, (Ig.L s).contains 47 = z := ⟨_, rfl⟩
    rw [hdp] at HHA
    have HDP : Hid (Ig.deep [] = dp) := Lib.hid (by rw [← HL0.out]; exact hdp)
    clear hdp
    go_enter Tryz.func42, Tryz.ntmps42
    go_wp2_with fail
    refine (HHA.out _).mono ?_
    rintro e w1 ⟨rfl, hx1⟩
    have HB1 := Lib.hid (Blk.ext hx1 (Blk.new' (g := w.heap.size + 1) (by simp)))
    have HB0 := Lib.hid (Blk.ext hx1 (Blk.alloc (Blk.new' (w := w) (g := w.heap.size) rfl) _))
    have HX1 := Lib.hid (((hx.alloc _).alloc _).trans hx1)
    obtain ⟨hcb, hfb, hlb⟩ := HB1.out.all
    obtain ⟨hcr, hfr, hlr⟩ := HB0.out.all
    clear hx1
    cases dp with
    | false =>
      go_wp2_with fail
      refine bodyPost_ret (v := .agg #[.bool false, .bool false, .bool false, .string s]) ?_ rfl ?_
      focus
        simp only [results, Tryz.results42]
        go_simp
        done
      refine ⟨by rw [HL0.out, HRU.out, HDP.out, HXB.out]; rfl, ?_⟩
      repeat (first | exact HX1.out | refine Ext.setCell (p := ⟨_, _, none⟩) ?_ (by first | exact Nat.le_refl _ | exact Nat.le_succ _) _)
    | true =>
      go_wp2_with fail
      refine bodyPost_ret (v := .agg #[.bool false, .bool false, .bool true, .string s]) ?_ rfl ?_
      focus
        simp only [results, Tryz.results42]
        go_simp
        done
      refine ⟨by rw [HL0.out, HRU.out, HDP.out, HXB.out]; rfl, ?_⟩
      repeat (first | exact HX1.out | refine Ext.setCell (p := ⟨_, _, none⟩) ?_ (by first | exact Nat.le_refl _ | exact Nat.le_succ _) _)
  | cons c1 t1 =>
    obtain ⟨hq1, h01, hc1⟩ := L_cons HL0.out
    by_cases hb5 : c1 = 33
    · subst hb5
      obtain ⟨X5, hx5⟩ : ∃ z, s.extract 1 s.size = z := ⟨_, rfl⟩
      have hxs5 : X5.size ≤ 1000000 := by rw [← hx5, ByteArray.size_extract]; omega
      have HLX5 : Hid (Ig.L X5 = t1) := Lib.hid (by rw [← hx5]; exact L_tail HL0.out)
      have HC5 : Hid (Ig.cutP 33 (33 :: t1) = (t1, true)) := Lib.hid rfl
      cases t1 with
      | nil =>
        have hq6 := L_empty HLX5.out
        have HC7 : Hid (Ig.cutP 47 ([] : List UInt8) = ([], false)) := Lib.hid rfl
        have HC8 : Hid (Ig.cutS 47 ([] : List UInt8) = ([], false)) := Lib.hid rfl
        have HRU := Lib.hid (rule_of HC5.out HC7.out HC8.out)
        have HXB : Hid (Ig.bs [] = X5) := Lib.hid (by rw [← HLX5.out]; rfl)
        have HHA : Hid (∀ W, Calls Tryz.prog 48 #[.string X5, .int .u8 47] W (Ret (.bool ((Ig.L X5).contains 47)) W)) := Lib.hid fun W => rhas_any X5 47 W (by omega)
        obtain ⟨dp, hdp⟩ : ∃ z, (Ig.L X5).contains 47 = z := ⟨_, rfl⟩
        rw [hdp] at HHA
        have HDP : Hid (Ig.deep [] = dp) := Lib.hid (by rw [← HLX5.out]; exact hdp)
        clear hdp
        go_enter Tryz.func42, Tryz.ntmps42
        go_wp2_with fail
        refine (HHA.out _).mono ?_
        rintro e w1 ⟨rfl, hx1⟩
        have HB1 := Lib.hid (Blk.ext hx1 (Blk.new' (g := w.heap.size + 1) (by simp)))
        have HB0 := Lib.hid (Blk.ext hx1 (Blk.alloc (Blk.new' (w := w) (g := w.heap.size) rfl) _))
        have HX1 := Lib.hid (((hx.alloc _).alloc _).trans hx1)
        obtain ⟨hcb, hfb, hlb⟩ := HB1.out.all
        obtain ⟨hcr, hfr, hlr⟩ := HB0.out.all
        clear hx1
        cases dp with
        | false =>
          go_wp2_with fail
          refine bodyPost_ret (v := .agg #[.bool true, .bool false, .bool false, .string X5]) ?_ rfl ?_
          focus
            simp only [results, Tryz.results42]
            go_simp
            done
          refine ⟨by rw [HL0.out, HRU.out, HDP.out, HXB.out]; rfl, ?_⟩
          repeat (first | exact HX1.out | refine Ext.setCell (p := ⟨_, _, none⟩) ?_ (by first | exact Nat.le_refl _ | exact Nat.le_succ _) _)
        | true =>
          go_wp2_with fail
          refine bodyPost_ret (v := .agg #[.bool true, .bool false, .bool true, .string X5]) ?_ rfl ?_
          focus
            simp only [results, Tryz.results42]
            go_simp
            done
          refine ⟨by rw [HL0.out, HRU.out, HDP.out, HXB.out]; rfl, ?_⟩
          repeat (first | exact HX1.out | refine Ext.setCell (p := ⟨_, _, none⟩) ?_ (by first | exact Nat.le_refl _ | exact Nat.le_succ _) _)
      | cons c6 t6 =>
        obtain ⟨hq6, h06, hc6⟩ := L_cons HLX5.out
        by_cases hb9 : c6 = 47
        · subst hb9
          obtain ⟨X9, hx9⟩ : ∃ z, X5.extract 1 X5.size = z := ⟨_, rfl⟩
          have hxs9 : X9.size ≤ 1000000 := by rw [← hx9, ByteArray.size_extract]; omega
          have HLX9 : Hid (Ig.L X9 = t6) := Lib.hid (by rw [← hx9]; exact L_tail HLX5.out)
          have HC9 : Hid (Ig.cutP 47 (47 :: t6) = (t6, true)) := Lib.hid rfl
          cases t6 with
          | nil =>
            have hq10 := L_empty HLX9.out
            have HC11 : Hid (Ig.cutS 47 ([] : List UInt8) = ([], false)) := Lib.hid rfl
            have HRU := Lib.hid (rule_of HC5.out HC9.out HC11.out)
            have HXB : Hid (Ig.bs [] = X9) := Lib.hid (by rw [← HLX9.out]; rfl)
            go_enter Tryz.func42, Tryz.ntmps42
            go_wp2_with fail
            refine bodyPost_ret (v := .agg #[.bool true, .bool false, .bool true, .string X9]) ?_ rfl ?_
            focus
              simp only [results, Tryz.results42]
              go_simp
              done
            refine ⟨by rw [HL0.out, HRU.out, HXB.out]; rfl, ?_⟩
            repeat (first | exact hx | refine Ext.alloc ?_ _)
          | cons c10 t10 =>
            obtain ⟨hq10, h010, hc10⟩ := L_cons HLX9.out
            obtain ⟨m12, hm12⟩ : ∃ m, X9.size = m + 1 := ⟨X9.size - 1, by omega⟩
            obtain ⟨hz12, hg12, he12⟩ := L_last HLX9.out hm12
            obtain ⟨d12, hd12⟩ : ∃ d, X9[m12] = d := ⟨_, rfl⟩
            rw [hd12] at hg12
            by_cases h4712 : d12 = 47
            · subst h4712
              obtain ⟨X12, hx12⟩ : ∃ z, X9.extract 0 m12 = z := ⟨_, rfl⟩
              have hxs12 : X12.size ≤ 1000000 := by rw [← hx12, ByteArray.size_extract]; omega
              rw [hx12] at he12
              have HLX12 := Lib.hid he12
              have HC12 : Hid (Ig.cutS 47 (c10 :: t10) = ((c10 :: t10).dropLast, true)) := Lib.hid (if_pos hg12)
              clear hg12 he12
              have HRU := Lib.hid (rule_of HC5.out HC9.out HC12.out)
              have HXB : Hid (Ig.bs (c10 :: t10).dropLast = X12) := Lib.hid (by rw [← HLX12.out]; rfl)
              go_enter Tryz.func42, Tryz.ntmps42
              go_wp2_with fail
              refine bodyPost_ret (v := .agg #[.bool true, .bool true, .bool true, .string X12]) ?_ rfl ?_
              focus
                simp only [results, Tryz.results42]
                go_simp
                done
              refine ⟨by rw [HL0.out, HRU.out, HXB.out]; rfl, ?_⟩
              repeat (first | exact hx | refine Ext.alloc ?_ _)
            · have e12 : ((d12.toNat : Int) == 47) = false := byte_ne (n := 47) (by omega) h4712
              have HC12 : Hid (Ig.cutS 47 (c10 :: t10) = ((c10 :: t10), false)) := Lib.hid (if_neg (by rw [hg12]; exact fun e => h4712 (Option.some.inj e)))
              clear hg12 he12
              have HRU := Lib.hid (rule_of HC5.out HC9.out HC12.out)
              have HXB : Hid (Ig.bs (c10 :: t10) = X9) := Lib.hid (by rw [← HLX9.out]; rfl)
              go_enter Tryz.func42, Tryz.ntmps42
              go_wp2_with fail
              refine bodyPost_ret (v := .agg #[.bool true, .bool false, .bool true, .string X9]) ?_ rfl ?_
              focus
                simp only [results, Tryz.results42]
                go_simp
                done
              refine ⟨by rw [HL0.out, HRU.out, HXB.out]; rfl, ?_⟩
              repeat (first | exact hx | refine Ext.alloc ?_ _)
        · have e9 : ((c6.toNat : Int) == 47) = false := byte_ne (n := 47) (by omega) hb9
          have HC9 : Hid (Ig.cutP 47 (c6 :: t6) = (c6 :: t6, false)) := Lib.hid (if_neg hb9)
          obtain ⟨m13, hm13⟩ : ∃ m, X5.size = m + 1 := ⟨X5.size - 1, by omega⟩
          obtain ⟨hz13, hg13, he13⟩ := L_last HLX5.out hm13
          obtain ⟨d13, hd13⟩ : ∃ d, X5[m13] = d := ⟨_, rfl⟩
          rw [hd13] at hg13
          by_cases h4713 : d13 = 47
          · subst h4713
            obtain ⟨X13, hx13⟩ : ∃ z, X5.extract 0 m13 = z := ⟨_, rfl⟩
            have hxs13 : X13.size ≤ 1000000 := by rw [← hx13, ByteArray.size_extract]; omega
            rw [hx13] at he13
            have HLX13 := Lib.hid he13
            have HC13 : Hid (Ig.cutS 47 (c6 :: t6) = ((c6 :: t6).dropLast, true)) := Lib.hid (if_pos hg13)
            clear hg13 he13
            have HRU := Lib.hid (rule_of HC5.out HC9.out HC13.out)
            have HXB : Hid (Ig.bs (c6 :: t6).dropLast = X13) := Lib.hid (by rw [← HLX13.out]; rfl)
            have HHA : Hid (∀ W, Calls Tryz.prog 48 #[.string X13, .int .u8 47] W (Ret (.bool ((Ig.L X13).contains 47)) W)) := Lib.hid fun W => rhas_any X13 47 W (by omega)
            obtain ⟨dp, hdp⟩ : ∃ z, (Ig.L X13).contains 47 = z := ⟨_, rfl⟩
            rw [hdp] at HHA
            have HDP : Hid (Ig.deep (c6 :: t6).dropLast = dp) := Lib.hid (by rw [← HLX13.out]; exact hdp)
            clear hdp
            go_enter Tryz.func42, Tryz.ntmps42
            go_wp2_with fail
            refine (HHA.out _).mono ?_
            rintro e w1 ⟨rfl, hx1⟩
            have HB1 := Lib.hid (Blk.ext hx1 (Blk.new' (g := w.heap.size + 1) (by simp)))
            have HB0 := Lib.hid (Blk.ext hx1 (Blk.alloc (Blk.new' (w := w) (g := w.heap.size) rfl) _))
            have HX1 := Lib.hid (((hx.alloc _).alloc _).trans hx1)
            obtain ⟨hcb, hfb, hlb⟩ := HB1.out.all
            obtain ⟨hcr, hfr, hlr⟩ := HB0.out.all
            clear hx1
            cases dp with
            | false =>
              go_wp2_with fail
              refine bodyPost_ret (v := .agg #[.bool true, .bool true, .bool false, .string X13]) ?_ rfl ?_
              focus
                simp only [results, Tryz.results42]
                go_simp
                done
              refine ⟨by rw [HL0.out, HRU.out, HDP.out, HXB.out]; rfl, ?_⟩
              repeat (first | exact HX1.out | refine Ext.setCell (p := ⟨_, _, none⟩) ?_ (by first | exact Nat.le_refl _ | exact Nat.le_succ _) _)
            | true =>
              go_wp2_with fail
              refine bodyPost_ret (v := .agg #[.bool true, .bool true, .bool true, .string X13]) ?_ rfl ?_
              focus
                simp only [results, Tryz.results42]
                go_simp
                done
              refine ⟨by rw [HL0.out, HRU.out, HDP.out, HXB.out]; rfl, ?_⟩
              repeat (first | exact HX1.out | refine Ext.setCell (p := ⟨_, _, none⟩) ?_ (by first | exact Nat.le_refl _ | exact Nat.le_succ _) _)
          · have e13 : ((d13.toNat : Int) == 47) = false := byte_ne (n := 47) (by omega) h4713
            have HC13 : Hid (Ig.cutS 47 (c6 :: t6) = ((c6 :: t6), false)) := Lib.hid (if_neg (by rw [hg13]; exact fun e => h4713 (Option.some.inj e)))
            clear hg13 he13
            have HRU := Lib.hid (rule_of HC5.out HC9.out HC13.out)
            have HXB : Hid (Ig.bs (c6 :: t6) = X5) := Lib.hid (by rw [← HLX5.out]; rfl)
            have HHA : Hid (∀ W, Calls Tryz.prog 48 #[.string X5, .int .u8 47] W (Ret (.bool ((Ig.L X5).contains 47)) W)) := Lib.hid fun W => rhas_any X5 47 W (by omega)
            obtain ⟨dp, hdp⟩ : ∃ z, (Ig.L X5).contains 47 = z := ⟨_, rfl⟩
            rw [hdp] at HHA
            have HDP : Hid (Ig.deep (c6 :: t6) = dp) := Lib.hid (by rw [← HLX5.out]; exact hdp)
            clear hdp
            go_enter Tryz.func42, Tryz.ntmps42
            go_wp2_with fail
            refine (HHA.out _).mono ?_
            rintro e w1 ⟨rfl, hx1⟩
            have HB1 := Lib.hid (Blk.ext hx1 (Blk.new' (g := w.heap.size + 1) (by simp)))
            have HB0 := Lib.hid (Blk.ext hx1 (Blk.alloc (Blk.new' (w := w) (g := w.heap.size) rfl) _))
            have HX1 := Lib.hid (((hx.alloc _).alloc _).trans hx1)
            obtain ⟨hcb, hfb, hlb⟩ := HB1.out.all
            obtain ⟨hcr, hfr, hlr⟩ := HB0.out.all
            clear hx1
            cases dp with
            | false =>
              go_wp2_with fail
              refine bodyPost_ret (v := .agg #[.bool true, .bool false, .bool false, .string X5]) ?_ rfl ?_
              focus
                simp only [results, Tryz.results42]
                go_simp
                done
              refine ⟨by rw [HL0.out, HRU.out, HDP.out, HXB.out]; rfl, ?_⟩
              repeat (first | exact HX1.out | refine Ext.setCell (p := ⟨_, _, none⟩) ?_ (by first | exact Nat.le_refl _ | exact Nat.le_succ _) _)
            | true =>
              go_wp2_with fail
              refine bodyPost_ret (v := .agg #[.bool true, .bool false, .bool true, .string X5]) ?_ rfl ?_
              focus
                simp only [results, Tryz.results42]
                go_simp
                done
              refine ⟨by rw [HL0.out, HRU.out, HDP.out, HXB.out]; rfl, ?_⟩
              repeat (first | exact HX1.out | refine Ext.setCell (p := ⟨_, _, none⟩) ?_ (by first | exact Nat.le_refl _ | exact Nat.le_succ _) _)
    · have e5 : ((c1.toNat : Int) == 33) = false := byte_ne (n := 33) (by omega) hb5
      have HC5 : Hid (Ig.cutP 33 (c1 :: t1) = (c1 :: t1, false)) := Lib.hid (if_neg hb5)
      by_cases hb14 : c1 = 47
      · subst hb14
        obtain ⟨X14, hx14⟩ : ∃ z, s.extract 1 s.size = z := ⟨_, rfl⟩
        have hxs14 : X14.size ≤ 1000000 := by rw [← hx14, ByteArray.size_extract]; omega
        have HLX14 : Hid (Ig.L X14 = t1) := Lib.hid (by rw [← hx14]; exact L_tail HL0.out)
        have HC14 : Hid (Ig.cutP 47 (47 :: t1) = (t1, true)) := Lib.hid rfl
        cases t1 with
        | nil =>
          have hq15 := L_empty HLX14.out
          have HC16 : Hid (Ig.cutS 47 ([] : List UInt8) = ([], false)) := Lib.hid rfl
          have HRU := Lib.hid (rule_of HC5.out HC14.out HC16.out)
          have HXB : Hid (Ig.bs [] = X14) := Lib.hid (by rw [← HLX14.out]; rfl)
          go_enter Tryz.func42, Tryz.ntmps42
          go_wp2_with fail
          refine bodyPost_ret (v := .agg #[.bool false, .bool false, .bool true, .string X14]) ?_ rfl ?_
          focus
            simp only [results, Tryz.results42]
            go_simp
            done
          refine ⟨by rw [HL0.out, HRU.out, HXB.out]; rfl, ?_⟩
          repeat (first | exact hx | refine Ext.alloc ?_ _)
        | cons c15 t15 =>
          obtain ⟨hq15, h015, hc15⟩ := L_cons HLX14.out
          obtain ⟨m17, hm17⟩ : ∃ m, X14.size = m + 1 := ⟨X14.size - 1, by omega⟩
          obtain ⟨hz17, hg17, he17⟩ := L_last HLX14.out hm17
          obtain ⟨d17, hd17⟩ : ∃ d, X14[m17] = d := ⟨_, rfl⟩
          rw [hd17] at hg17
          by_cases h4717 : d17 = 47
          · subst h4717
            obtain ⟨X17, hx17⟩ : ∃ z, X14.extract 0 m17 = z := ⟨_, rfl⟩
            have hxs17 : X17.size ≤ 1000000 := by rw [← hx17, ByteArray.size_extract]; omega
            rw [hx17] at he17
            have HLX17 := Lib.hid he17
            have HC17 : Hid (Ig.cutS 47 (c15 :: t15) = ((c15 :: t15).dropLast, true)) := Lib.hid (if_pos hg17)
            clear hg17 he17
            have HRU := Lib.hid (rule_of HC5.out HC14.out HC17.out)
            have HXB : Hid (Ig.bs (c15 :: t15).dropLast = X17) := Lib.hid (by rw [← HLX17.out]; rfl)
            go_enter Tryz.func42, Tryz.ntmps42
            go_wp2_with fail
            refine bodyPost_ret (v := .agg #[.bool false, .bool true, .bool true, .string X17]) ?_ rfl ?_
            focus
              simp only [results, Tryz.results42]
              go_simp
              done
            refine ⟨by rw [HL0.out, HRU.out, HXB.out]; rfl, ?_⟩
            repeat (first | exact hx | refine Ext.alloc ?_ _)
          · have e17 : ((d17.toNat : Int) == 47) = false := byte_ne (n := 47) (by omega) h4717
            have HC17 : Hid (Ig.cutS 47 (c15 :: t15) = ((c15 :: t15), false)) := Lib.hid (if_neg (by rw [hg17]; exact fun e => h4717 (Option.some.inj e)))
            clear hg17 he17
            have HRU := Lib.hid (rule_of HC5.out HC14.out HC17.out)
            have HXB : Hid (Ig.bs (c15 :: t15) = X14) := Lib.hid (by rw [← HLX14.out]; rfl)
            go_enter Tryz.func42, Tryz.ntmps42
            go_wp2_with fail
            refine bodyPost_ret (v := .agg #[.bool false, .bool false, .bool true, .string X14]) ?_ rfl ?_
            focus
              simp only [results, Tryz.results42]
              go_simp
              done
            refine ⟨by rw [HL0.out, HRU.out, HXB.out]; rfl, ?_⟩
            repeat (first | exact hx | refine Ext.alloc ?_ _)
      · have e14 : ((c1.toNat : Int) == 47) = false := byte_ne (n := 47) (by omega) hb14
        have HC14 : Hid (Ig.cutP 47 (c1 :: t1) = (c1 :: t1, false)) := Lib.hid (if_neg hb14)
        obtain ⟨m18, hm18⟩ : ∃ m, s.size = m + 1 := ⟨s.size - 1, by omega⟩
        obtain ⟨hz18, hg18, he18⟩ := L_last HL0.out hm18
        obtain ⟨d18, hd18⟩ : ∃ d, s[m18] = d := ⟨_, rfl⟩
        rw [hd18] at hg18
        by_cases h4718 : d18 = 47
        · subst h4718
          obtain ⟨X18, hx18⟩ : ∃ z, s.extract 0 m18 = z := ⟨_, rfl⟩
          have hxs18 : X18.size ≤ 1000000 := by rw [← hx18, ByteArray.size_extract]; omega
          rw [hx18] at he18
          have HLX18 := Lib.hid he18
          have HC18 : Hid (Ig.cutS 47 (c1 :: t1) = ((c1 :: t1).dropLast, true)) := Lib.hid (if_pos hg18)
          clear hg18 he18
          have HRU := Lib.hid (rule_of HC5.out HC14.out HC18.out)
          have HXB : Hid (Ig.bs (c1 :: t1).dropLast = X18) := Lib.hid (by rw [← HLX18.out]; rfl)
          have HHA : Hid (∀ W, Calls Tryz.prog 48 #[.string X18, .int .u8 47] W (Ret (.bool ((Ig.L X18).contains 47)) W)) := Lib.hid fun W => rhas_any X18 47 W (by omega)
          obtain ⟨dp, hdp⟩ : ∃ z, (Ig.L X18).contains 47 = z := ⟨_, rfl⟩
          rw [hdp] at HHA
          have HDP : Hid (Ig.deep (c1 :: t1).dropLast = dp) := Lib.hid (by rw [← HLX18.out]; exact hdp)
          clear hdp
          go_enter Tryz.func42, Tryz.ntmps42
          go_wp2_with fail
          refine (HHA.out _).mono ?_
          rintro e w1 ⟨rfl, hx1⟩
          have HB1 := Lib.hid (Blk.ext hx1 (Blk.new' (g := w.heap.size + 1) (by simp)))
          have HB0 := Lib.hid (Blk.ext hx1 (Blk.alloc (Blk.new' (w := w) (g := w.heap.size) rfl) _))
          have HX1 := Lib.hid (((hx.alloc _).alloc _).trans hx1)
          obtain ⟨hcb, hfb, hlb⟩ := HB1.out.all
          obtain ⟨hcr, hfr, hlr⟩ := HB0.out.all
          clear hx1
          cases dp with
          | false =>
            go_wp2_with fail
            refine bodyPost_ret (v := .agg #[.bool false, .bool true, .bool false, .string X18]) ?_ rfl ?_
            focus
              simp only [results, Tryz.results42]
              go_simp
              done
            refine ⟨by rw [HL0.out, HRU.out, HDP.out, HXB.out]; rfl, ?_⟩
            repeat (first | exact HX1.out | refine Ext.setCell (p := ⟨_, _, none⟩) ?_ (by first | exact Nat.le_refl _ | exact Nat.le_succ _) _)
          | true =>
            go_wp2_with fail
            refine bodyPost_ret (v := .agg #[.bool false, .bool true, .bool true, .string X18]) ?_ rfl ?_
            focus
              simp only [results, Tryz.results42]
              go_simp
              done
            refine ⟨by rw [HL0.out, HRU.out, HDP.out, HXB.out]; rfl, ?_⟩
            repeat (first | exact HX1.out | refine Ext.setCell (p := ⟨_, _, none⟩) ?_ (by first | exact Nat.le_refl _ | exact Nat.le_succ _) _)
        · have e18 : ((d18.toNat : Int) == 47) = false := byte_ne (n := 47) (by omega) h4718
          have HC18 : Hid (Ig.cutS 47 (c1 :: t1) = ((c1 :: t1), false)) := Lib.hid (if_neg (by rw [hg18]; exact fun e => h4718 (Option.some.inj e)))
          clear hg18 he18
          have HRU := Lib.hid (rule_of HC5.out HC14.out HC18.out)
          have HXB : Hid (Ig.bs (c1 :: t1) = s) := Lib.hid (by rw [← HL0.out]; rfl)
          have HHA : Hid (∀ W, Calls Tryz.prog 48 #[.string s, .int .u8 47] W (Ret (.bool ((Ig.L s).contains 47)) W)) := Lib.hid fun W => rhas_any s 47 W (by omega)
          obtain ⟨dp, hdp⟩ : ∃ z, (Ig.L s).contains 47 = z := ⟨_, rfl⟩
          rw [hdp] at HHA
          have HDP : Hid (Ig.deep (c1 :: t1) = dp) := Lib.hid (by rw [← HL0.out]; exact hdp)
          clear hdp
          go_enter Tryz.func42, Tryz.ntmps42
          go_wp2_with fail
          refine (HHA.out _).mono ?_
          rintro e w1 ⟨rfl, hx1⟩
          have HB1 := Lib.hid (Blk.ext hx1 (Blk.new' (g := w.heap.size + 1) (by simp)))
          have HB0 := Lib.hid (Blk.ext hx1 (Blk.alloc (Blk.new' (w := w) (g := w.heap.size) rfl) _))
          have HX1 := Lib.hid (((hx.alloc _).alloc _).trans hx1)
          obtain ⟨hcb, hfb, hlb⟩ := HB1.out.all
          obtain ⟨hcr, hfr, hlr⟩ := HB0.out.all
          clear hx1
          cases dp with
          | false =>
            go_wp2_with fail
            refine bodyPost_ret (v := .agg #[.bool false, .bool false, .bool false, .string s]) ?_ rfl ?_
            focus
              simp only [results, Tryz.results42]
              go_simp
              done
            refine ⟨by rw [HL0.out, HRU.out, HDP.out, HXB.out]; rfl, ?_⟩
            repeat (first | exact HX1.out | refine Ext.setCell (p := ⟨_, _, none⟩) ?_ (by first | exact Nat.le_refl _ | exact Nat.le_succ _) _)
          | true =>
            go_wp2_with fail
            refine bodyPost_ret (v := .agg #[.bool false, .bool false, .bool true, .string s]) ?_ rfl ?_
            focus
              simp only [results, Tryz.results42]
              go_simp
              done
            refine ⟨by rw [HL0.out, HRU.out, HDP.out, HXB.out]; rfl, ?_⟩
            repeat (first | exact HX1.out | refine Ext.setCell (p := ⟨_, _, none⟩) ?_ (by first | exact Nat.le_refl _ | exact Nat.le_succ _) _)
end Go.Proofs.YtnjcifppkijanaaGreatDoor
namespace Go.Proofs.YtnjcifppkijanaaGreatDoor
open Go Go.RowKit Go.Shelf
namespace Ig
/-- Lines being read: k lines are behind. -/
structure LnI (l : List UInt8) (f i k : Nat) : Prop where
  eq : (cut 10 l).drop k = cut 10 (l.drop f)
  clean : 10 ∉ (l.take i).drop f
  le : f ≤ i
  il : i ≤ l.length
theorem LnI.start (l : List UInt8) : LnI l 0 0 0 := ⟨rfl, by simp, Nat.le_refl _, Nat.zero_le _⟩
theorem LnI.miss {l : List UInt8} {f i k : Nat} {c : UInt8} (h : LnI l f i k) (hc : l[i]? = some c) (h47 : c ≠ 10) : LnI l f (i + 1) k := by
  refine ⟨h.eq, fun hm => ?_, Nat.le_succ_of_le h.le, (List.getElem?_eq_some_iff.1 hc).1⟩
  rw [take_snoc hc, List.drop_append_of_le_length (by rw [List.length_take]; have := h.le; have := h.il; omega)] at hm
  rcases List.mem_append.1 hm with hm | hm
  · exact h.clean hm
  · exact h47 (List.mem_singleton.1 hm).symm
theorem drop_step {α : Type} {l : List α} {k : Nat} {x : α} {r : List α} (h : l.drop k = x :: r) : l[k]? = some x ∧ l.drop (k + 1) = r := by
  refine ⟨?_, ?_⟩
  · have := congrArg (fun z : List α => z[0]?) h
    simpa [List.getElem?_drop] using this
  · rw [← List.drop_drop, h]
    rfl
theorem LnI.hit {l : List UInt8} {f i k : Nat} (h : LnI l f i k) (hc : l[i]? = some 10) : (cut 10 l)[k]? = some ((l.take i).drop f) ∧ LnI l (i + 1) (i + 1) (k + 1) := by
  have hi := (List.getElem?_eq_some_iff.1 hc).1
  have e : l.drop f = (l.take i).drop f ++ 10 :: l.drop (i + 1) := by
    have h1 : l = l.take i ++ 10 :: l.drop (i + 1) := by
      conv => lhs; rw [← List.take_append_drop i l, drop_at hc]
    conv => lhs; rw [h1, List.drop_append_of_le_length (by rw [List.length_take]; have := h.le; omega)]
  have h2 := h.eq
  rw [e, cut_app _ h.clean] at h2
  obtain ⟨h3, h4⟩ := drop_step h2
  refine ⟨h3, h4, ?_, Nat.le_refl _, hi⟩
  rw [List.drop_eq_nil_of_le (by rw [List.length_take]; omega)]
  simp
theorem LnI.end {l : List UInt8} {f k : Nat} (h : LnI l f l.length k) : (cut 10 l)[k]? = some ((l.take l.length).drop f) ∧ (cut 10 l).drop (k + 1) = [] := by
  have h1 := h.clean
  have h2 := h.eq
  rw [List.take_length] at h1 ⊢
  rw [cut_none h1] at h2
  exact drop_step h2
end Ig
set_option maxHeartbeats 32000000 in
set_option maxRecDepth 100000 in
theorem rparse39_any (s : ByteArray) (w : World) (hs : s.size ≤ 1000000) : Calls Tryz.prog 13 #[.string s] w (ParseF (Ig.parse (Ig.L s)) w) := by
  have hlen : (Ig.L s).length = s.size := rfl
  have HO0 := Lib.hid (OwnW.lit 4 RuR 60 w w)
  have HX0 := Lib.hid ((Ext.refl w).alloc (.cells #[] 60))
  obtain ⟨R, hR⟩ : ∃ R, R = Ig.parse (Ig.L s) := ⟨_, rfl⟩
  have HR0 : Hid (R = Ig.parseTo ((Ig.cut 10 (Ig.L s)).drop 0) 0 []) := Lib.hid hR
  rw [← hR]
  clear hR
  go_enter Tryz.func13, Tryz.ntmps13
  go_wp2_with fail
  go_loopw [5, 6, 7, 8, 9, 10, 11] (fun u5 u6 u7 u8 _ _ _ wr => ∃ (f i k : Nat) (rs : List Ig.Ru), u6 = .int .i64 f ∧ u7 = .int .i64 ((k : Int) + 1) ∧ u8 = .int .i64 i ∧ i ≤ s.size + 1 ∧ k ≤ i ∧ rs.length ≤ 100 ∧ Hid (OwnW 4 RuR 60 w wr w.heap.size All u5 rs) ∧ Hid (Ext w wr) ∧ Hid ((i ≤ s.size ∧ Ig.LnI (Ig.L s) f i k ∧ R = Ig.parseTo ((Ig.cut 10 (Ig.L s)).drop k) k rs) ∨ (i = s.size + 1 ∧ R = (rs, 0, 0)))) (fun _ _ _ u _ _ _ _ => s.size + 1 - (intOf u).toNat)
  case atStart => exact ⟨0, 0, 0, [], rfl, rfl, rfl, Nat.zero_le _, Nat.zero_le _, Nat.zero_le _, HO0, HX0, Lib.hid (.inl ⟨Nat.zero_le _, Ig.LnI.start _, HR0.out⟩)⟩
  case round =>
    clear HO0 HX0 HR0
    rename World => wo
    obtain ⟨f, i, k, rs, rfl, rfl, rfl, his, hki, hrs, HO, HX, HI⟩ := hrel
    by_cases hle : i ≤ s.size
    · obtain ⟨hln, hpe⟩ : Ig.LnI (Ig.L s) f i k ∧ R = Ig.parseTo ((Ig.cut 10 (Ig.L s)).drop k) k rs := by
        rcases HI.out with h | h
        · exact h.2
        · omega
      have hfi := hln.le
      have HLN := Lib.hid hln
      have HPE := Lib.hid hpe
      have hex : Ig.L (s.extract f i) = ((Ig.L s).take i).drop f := Pa.L_extract s f i
      clear hln hpe HI
      by_cases hlt : i < s.size
      · have hat := byteAt s hlt
        obtain ⟨b, hb⟩ : ∃ b, s[i] = b := ⟨_, rfl⟩
        rw [hb] at hat
        by_cases h10 : b = 10
        · have e10 : ((b.toNat : Int) != 10) = false := by rw [h10]; rfl
          obtain ⟨seg, hseg⟩ : ∃ seg, seg = ((Ig.L s).take i).drop f := ⟨_, rfl⟩
          rw [← hseg] at hex
          have HSG : Hid ((Ig.cut 10 (Ig.L s))[k]? = some seg) := Lib.hid (by rw [hseg]; exact (HLN.out.hit (by rw [hat, h10])).1)
          have HNX : Hid (∀ rs', R = Ig.parseTo ((Ig.cut 10 (Ig.L s)).drop (k + 1)) (k + 1) rs' → ((i + 1 ≤ s.size ∧ Ig.LnI (Ig.L s) (i + 1) (i + 1) (k + 1) ∧ R = Ig.parseTo ((Ig.cut 10 (Ig.L s)).drop (k + 1)) (k + 1) rs') ∨ (i + 1 = s.size + 1 ∧ R = (rs', 0, 0)))) := Lib.hid (fun rs' h => .inl ⟨hlt, (HLN.out.hit (by rw [hat, h10])).2, h⟩)
          subst h10
          clear hat hseg
          obtain ⟨t, hext⟩ : ∃ t, s.extract f i = t := ⟨_, rfl⟩
          have hLt : Ig.L t = seg := by rw [← hext]; exact hex
          have hts : t.size ≤ 1000000 := by rw [← hext, ByteArray.size_extract]; omega
          have HLT := Lib.hid hLt
          clear hLt hex
          cases seg with
          | nil =>
            have hq := L_empty HLT.out
            go_wp2_with fail
            go_roundw
            case rel => exact ⟨i + 1, i + 1, k + 1, rs, rfl, by first | rfl | (congr 1; push_cast; omega), rfl, by omega, by omega, hrs, HO, HX, Lib.hid (HNX.out rs (HPE.out.trans (Ig.parse_skip HSG.out (.inl rfl))))⟩
            case measure => simp [intOf]; omega
          | cons c u =>
            obtain ⟨hq, ht0, hc⟩ := L_cons HLT.out
            by_cases h35 : c = 35
            · have e35 : ((c.toNat : Int) != 35) = false := by rw [h35]; rfl
              subst h35
              go_wp2_with fail
              go_roundw
              case rel => exact ⟨i + 1, i + 1, k + 1, rs, rfl, by first | rfl | (congr 1; push_cast; omega), rfl, by omega, by omega, hrs, HO, HX, Lib.hid (HNX.out rs (HPE.out.trans (Ig.parse_skip HSG.out (.inr rfl))))⟩
              case measure => simp [intOf]; omega
            · have e35 : ((c.toNat : Int) != 35) = true := by
                have := byte_ne (n := 35) (by omega) h35
                simpa using this
              have HNS : Hid (¬ ((c :: u) = [] ∨ (c :: u).head? = some 35)) := Lib.hid (fun h => by
                rcases h with h | h
                · cases h
                · exact h35 (Option.some.inj h))
              have HRD := Lib.hid (rread_any t wo hts)
              rw [HLT.out] at HRD
              obtain ⟨r, hr⟩ : ∃ r, r = Ig.rule (c :: u) := ⟨_, rfl⟩
              have HR := Lib.hid hr
              unfold RulF at HRD
              rw [← hr] at HRD
              clear hr h35
              obtain ⟨rn, rd, ra, rg⟩ := r
              dsimp only at HRD
              go_wp2_with fail
              refine HRD.out.mono ?_
              rintro e w2 ⟨rfl, hx2⟩
              have HX2 := Lib.hid ((HX.out.trans hx2).alloc (.cells #[.bool rn, .bool rd, .bool ra, .string rg] 60))
              have HO2 := Lib.hid (HO.out.ext (hx2.alloc (.cells #[.bool rn, .bool rd, .bool ra, .string rg] 60)))
              have HB2 := Lib.hid (Blk.new' (w := w2) (g := w2.heap.size) (cs := #[.bool rn, .bool rd, .bool ra, .string rg]) (t := 60) rfl)
              have HGC : Hid (∀ W, Calls Tryz.prog 43 #[.string rg] W (Ret (.int .i64 (Ig.gcheck (Ig.L rg))) W)) := Lib.hid fun W => rgcheck_any rg W
              have HMK : Hid (∀ W, Calls Tryz.prog 44 #[.string rg] W (Ret (.bool (Ig.marked (Ig.L rg))) W)) := Lib.hid fun W => rmarked_any rg W
              have HLE : Hid (Ig.lineErr (Ig.rule (c :: u)) rs.length = if Ig.gcheck (Ig.L rg) ≠ 0 then Ig.gcheck (Ig.L rg) else if Ig.marked (Ig.L rg) = true then 3 else if rs.length = 100 then 4 else 0) := Lib.hid (by rw [← HR.out]; rfl)
              generalize Ig.gcheck (Ig.L rg) = gc at HGC HLE
              generalize Ig.marked (Ig.L rg) = mk at HMK HLE
              have HPER : Hid (Ig.lineErr (Ig.rule (c :: u)) rs.length ≠ 0 → R = ([], (k : Int) + 1, Ig.lineErr (Ig.rule (c :: u)) rs.length)) := Lib.hid (fun h => HPE.out.trans (Ig.parse_err HSG.out HNS.out h))
              obtain ⟨hcb, hfb, hlb⟩ := HB2.out.all
              clear hx2 HRD HO HX
              go_wp2_with fail
              refine (HGC.out _).mono ?_
              rintro e w3 ⟨rfl, hx3⟩
              have HX3 := Lib.hid (HX2.out.trans hx3)
              have HO3 := Lib.hid (HO2.out.ext hx3)
              have HB3 := Lib.hid (Blk.ext hx3 HB2.out)
              clear hx3 HX2 HO2 HB2 hcb hfb hlb HGC
              obtain ⟨hcb, hfb, hlb⟩ := HB3.out.all
              cases hz : (gc != 0) with
              | true =>
                have hz2 : (gc == 0) = false := by simpa using hz
                have HER : Hid (R = ([], (k : Int) + 1, gc)) := Lib.hid (by
                  have h1 : Ig.lineErr (Ig.rule (c :: u)) rs.length = gc := by rw [HLE.out, if_pos (by simpa using hz)]
                  have h2 := HPER.out (by rw [h1]; simpa using hz)
                  rwa [h1] at h2)
                clear HMK HLE
                go_wp2_with fail
                go_ret3
                refine ⟨some ⟨_, 0, none⟩, 0, 0, by rw [HER.out]; rfl, by rw [HER.out]; rfl, Nat.le_refl _, by rw [HER.out]; exact Sls.nil _ _ _ _, fun a ha => ?_, ?_⟩
                focus
                  cases ha
                  exact (HX3.out).size_le
                exact (HX3.out).alloc _
              | false =>
                obtain rfl : gc = 0 := by simpa using hz
                have HLE2 : Hid (Ig.lineErr (Ig.rule (c :: u)) rs.length = if mk = true then 3 else if rs.length = 100 then 4 else 0) := Lib.hid (by rw [HLE.out, if_neg (by simp)])
                clear hz HLE
                go_wp2_with fail
                refine (HMK.out _).mono ?_
                rintro e w4 ⟨rfl, hx4⟩
                have HX4 := Lib.hid (HX3.out.trans hx4)
                have HO4 := Lib.hid (HO3.out.ext hx4)
                have HB4 := Lib.hid (Blk.ext hx4 HB3.out)
                clear hx4 HX3 HO3 HB3 hcb hfb hlb HMK
                obtain ⟨hcb, hfb, hlb⟩ := HB4.out.all
                cases mk with
                | true =>
                  have HER : Hid (R = ([], (k : Int) + 1, 3)) := Lib.hid (by
                    have h1 : Ig.lineErr (Ig.rule (c :: u)) rs.length = 3 := by rw [HLE2.out]; rfl
                    have h2 := HPER.out (by rw [h1]; decide)
                    rwa [h1] at h2)
                  go_wp2_with fail
                  go_ret3
                  refine ⟨some ⟨_, 0, none⟩, 0, 0, by rw [HER.out]; rfl, by rw [HER.out]; rfl, Nat.le_refl _, by rw [HER.out]; exact Sls.nil _ _ _ _, fun a ha => ?_, ?_⟩
                  focus
                    cases ha
                    exact (HX4.out).size_le
                  exact (HX4.out).alloc _
                | false =>
                  obtain ⟨A9, c9, e9, hc9, -⟩ := HO4.out.slice
                  subst e9
                  by_cases h100 : rs.length = 100
                  · have h1002 : (100 : Int) ≤ (rs.length : Int) := by omega
                    have HER : Hid (R = ([], (k : Int) + 1, 4)) := Lib.hid (by
                      have h1 : Ig.lineErr (Ig.rule (c :: u)) rs.length = 4 := by rw [HLE2.out, if_neg (by decide), if_pos h100]
                      have h2 := HPER.out (by rw [h1]; decide)
                      rwa [h1] at h2)
                    clear h100
                    go_wp2_with fail
                    go_ret3
                    refine ⟨some ⟨_, 0, none⟩, 0, 0, by rw [HER.out]; rfl, by rw [HER.out]; rfl, Nat.le_refl _, by rw [HER.out]; exact Sls.nil _ _ _ _, fun a ha => ?_, ?_⟩
                    focus
                      cases ha
                      exact (HX4.out).size_le
                    exact (HX4.out).alloc _
                  · have h1002 : ¬ ((100 : Int) ≤ (rs.length : Int)) := by omega
                    have HOK : Hid (R = Ig.parseTo ((Ig.cut 10 (Ig.L s)).drop (k + 1)) (k + 1) (rs ++ [⟨rn, rd, ra, rg⟩])) := Lib.hid (by
                      have h1 : Ig.lineErr (Ig.rule (c :: u)) rs.length = 0 := by rw [HLE2.out, if_neg (by decide), if_neg h100]
                      have h2 := HPE.out.trans (Ig.parse_rule HSG.out HNS.out h1)
                      rwa [← HR.out] at h2)
                    obtain ⟨ie, iz, hie, hiz, his1, hib, hik⟩ := ruInfo
                    have HIE := Lib.hid (⟨hie, hiz, his1, hib, hik⟩ : _ ∧ _ ∧ _ ∧ _ ∧ _)
                    have HBD : Hid (rs.length + 1 ≤ maxLen ∧ (rs.length + 1) * 24 ≤ 140737488355328 ∧ w.heap.size ≤ (w4.alloc (.cells #[.bool rn, .bool rd, .bool ra, .string rg] 60)).heap.size ∧ (w4.alloc (.cells #[.bool rn, .bool rd, .bool ra, .string rg] 60)).rangeAt w4.heap.size 0 [.bool rn, .bool rd, .bool ra, .string rg]) := Lib.hid ⟨by unfold maxLen; omega, by omega, by have := HX4.out.size_le; simp; omega, (Blk.new' (w := w4) (g := w4.heap.size) (cs := #[.bool rn, .bool rd, .bool ra, .string rg]) (t := 60) rfl).range 0 _ (fun j _ => by simp)⟩
                    have hrs2 : rs.length + 1 ≤ 100 := by omega
                    clear hie hiz his1 hib hik h100
                    go_wp2_with (at_builtin; refine wpList_append_w (k := 4) (R := RuR) RuR.one w _ rfl (.tmp 64) (.tmp 66) 23 60 ie iz rfl Tryz.underlying23 HIE.out.1 HIE.out.2.1 HIE.out.2.2.1 HIE.out.2.2.2.1 HIE.out.2.2.2.2 (by decide) w.heap.size (F := All) (.slice A9 rs.length c9) rs rfl (HO4.out.ext ((Ext.refl _).alloc _)) w4.heap.size 1 [.bool rn, .bool rd, .bool ra, .string rg] ⟨rn, rd, ra, rg⟩ rfl HBD.out.2.2.2 rfl rfl HBD.out.1 HBD.out.2.1 HBD.out.2.2.1 ?_)
                    intro g2 cap w5 how5 hgrow
                    have HO5 := Lib.hid how5
                    have HX5 : Hid (Ext w w5) := Lib.hid (Below.grown (HX4.out.alloc _) hgrow (HX4.out.alloc _).size_le (fun j e => (HO4.out.block e).1))
                    clear how5 hgrow
                    go_wp2_with fail
                    go_roundw
                    case rel => exact ⟨i + 1, i + 1, k + 1, _, rfl, by first | rfl | (congr 1; push_cast; omega), rfl, by omega, by omega, by rw [List.length_append, List.length_singleton]; exact hrs2, HO5, HX5, Lib.hid (HNX.out _ HOK.out)⟩
                    case measure => simp [intOf]; omega
        · have e10 : ((b.toNat : Int) != 10) = true := by
            have := byte_ne (n := 10) (by omega) h10
            simpa using this
          have HL2 := Lib.hid (HLN.out.miss hat h10)
          clear hat hex
          go_wp2_with fail
          go_roundw
          case rel => exact ⟨f, i + 1, k, rs, rfl, rfl, rfl, by omega, by omega, hrs, HO, HX, Lib.hid (.inl ⟨hlt, HL2.out, HPE.out⟩)⟩
          case measure => simp [intOf]; omega
      · have HII : Hid (i = s.size) := Lib.hid (by omega)
        have hlt2 : ¬ ((i : Int) < (s.size : Int)) := by omega
        obtain ⟨seg, hseg⟩ : ∃ seg, seg = ((Ig.L s).take i).drop f := ⟨_, rfl⟩
        rw [← hseg] at hex
        have HLE : Hid (Ig.LnI (Ig.L s) f (Ig.L s).length k) := Lib.hid (by rw [hlen, ← HII.out]; exact HLN.out)
        have HSG : Hid ((Ig.cut 10 (Ig.L s))[k]? = some seg) := Lib.hid (by rw [hseg, HII.out, ← hlen]; exact HLE.out.end.1)
        have HNX : Hid (∀ rs', R = Ig.parseTo ((Ig.cut 10 (Ig.L s)).drop (k + 1)) (k + 1) rs' → ((i + 1 ≤ s.size ∧ Ig.LnI (Ig.L s) (i + 1) (i + 1) (k + 1) ∧ R = Ig.parseTo ((Ig.cut 10 (Ig.L s)).drop (k + 1)) (k + 1) rs') ∨ (i + 1 = s.size + 1 ∧ R = (rs', 0, 0)))) := Lib.hid (fun rs' h => .inr ⟨by rw [HII.out], by rw [h, HLE.out.end.2]; rfl⟩)
        clear hseg hlt
        obtain ⟨t, hext⟩ : ∃ t, s.extract f i = t := ⟨_, rfl⟩
        have hLt : Ig.L t = seg := by rw [← hext]; exact hex
        have hts : t.size ≤ 1000000 := by rw [← hext, ByteArray.size_extract]; omega
        have HLT := Lib.hid hLt
        clear hLt hex
        cases seg with
        | nil =>
          have hq := L_empty HLT.out
          go_wp2_with fail
          go_roundw
          case rel => exact ⟨i + 1, i + 1, k + 1, rs, rfl, by first | rfl | (congr 1; push_cast; omega), rfl, by omega, by omega, hrs, HO, HX, Lib.hid (HNX.out rs (HPE.out.trans (Ig.parse_skip HSG.out (.inl rfl))))⟩
          case measure => simp [intOf]; omega
        | cons c u =>
          obtain ⟨hq, ht0, hc⟩ := L_cons HLT.out
          by_cases h35 : c = 35
          · have e35 : ((c.toNat : Int) != 35) = false := by rw [h35]; rfl
            subst h35
            go_wp2_with fail
            go_roundw
            case rel => exact ⟨i + 1, i + 1, k + 1, rs, rfl, by first | rfl | (congr 1; push_cast; omega), rfl, by omega, by omega, hrs, HO, HX, Lib.hid (HNX.out rs (HPE.out.trans (Ig.parse_skip HSG.out (.inr rfl))))⟩
            case measure => simp [intOf]; omega
          · have e35 : ((c.toNat : Int) != 35) = true := by
              have := byte_ne (n := 35) (by omega) h35
              simpa using this
            have HNS : Hid (¬ ((c :: u) = [] ∨ (c :: u).head? = some 35)) := Lib.hid (fun h => by
              rcases h with h | h
              · cases h
              · exact h35 (Option.some.inj h))
            have HRD := Lib.hid (rread_any t wo hts)
            rw [HLT.out] at HRD
            obtain ⟨r, hr⟩ : ∃ r, r = Ig.rule (c :: u) := ⟨_, rfl⟩
            have HR := Lib.hid hr
            unfold RulF at HRD
            rw [← hr] at HRD
            clear hr h35
            obtain ⟨rn, rd, ra, rg⟩ := r
            dsimp only at HRD
            go_wp2_with fail
            refine HRD.out.mono ?_
            rintro e w2 ⟨rfl, hx2⟩
            have HX2 := Lib.hid ((HX.out.trans hx2).alloc (.cells #[.bool rn, .bool rd, .bool ra, .string rg] 60))
            have HO2 := Lib.hid (HO.out.ext (hx2.alloc (.cells #[.bool rn, .bool rd, .bool ra, .string rg] 60)))
            have HB2 := Lib.hid (Blk.new' (w := w2) (g := w2.heap.size) (cs := #[.bool rn, .bool rd, .bool ra, .string rg]) (t := 60) rfl)
            have HGC : Hid (∀ W, Calls Tryz.prog 43 #[.string rg] W (Ret (.int .i64 (Ig.gcheck (Ig.L rg))) W)) := Lib.hid fun W => rgcheck_any rg W
            have HMK : Hid (∀ W, Calls Tryz.prog 44 #[.string rg] W (Ret (.bool (Ig.marked (Ig.L rg))) W)) := Lib.hid fun W => rmarked_any rg W
            have HLE : Hid (Ig.lineErr (Ig.rule (c :: u)) rs.length = if Ig.gcheck (Ig.L rg) ≠ 0 then Ig.gcheck (Ig.L rg) else if Ig.marked (Ig.L rg) = true then 3 else if rs.length = 100 then 4 else 0) := Lib.hid (by rw [← HR.out]; rfl)
            generalize Ig.gcheck (Ig.L rg) = gc at HGC HLE
            generalize Ig.marked (Ig.L rg) = mk at HMK HLE
            have HPER : Hid (Ig.lineErr (Ig.rule (c :: u)) rs.length ≠ 0 → R = ([], (k : Int) + 1, Ig.lineErr (Ig.rule (c :: u)) rs.length)) := Lib.hid (fun h => HPE.out.trans (Ig.parse_err HSG.out HNS.out h))
            obtain ⟨hcb, hfb, hlb⟩ := HB2.out.all
            clear hx2 HRD HO HX
            go_wp2_with fail
            refine (HGC.out _).mono ?_
            rintro e w3 ⟨rfl, hx3⟩
            have HX3 := Lib.hid (HX2.out.trans hx3)
            have HO3 := Lib.hid (HO2.out.ext hx3)
            have HB3 := Lib.hid (Blk.ext hx3 HB2.out)
            clear hx3 HX2 HO2 HB2 hcb hfb hlb HGC
            obtain ⟨hcb, hfb, hlb⟩ := HB3.out.all
            cases hz : (gc != 0) with
            | true =>
              have hz2 : (gc == 0) = false := by simpa using hz
              have HER : Hid (R = ([], (k : Int) + 1, gc)) := Lib.hid (by
                have h1 : Ig.lineErr (Ig.rule (c :: u)) rs.length = gc := by rw [HLE.out, if_pos (by simpa using hz)]
                have h2 := HPER.out (by rw [h1]; simpa using hz)
                rwa [h1] at h2)
              clear HMK HLE
              go_wp2_with fail
              go_ret3
              refine ⟨some ⟨_, 0, none⟩, 0, 0, by rw [HER.out]; rfl, by rw [HER.out]; rfl, Nat.le_refl _, by rw [HER.out]; exact Sls.nil _ _ _ _, fun a ha => ?_, ?_⟩
              focus
                cases ha
                exact (HX3.out).size_le
              exact (HX3.out).alloc _
            | false =>
              obtain rfl : gc = 0 := by simpa using hz
              have HLE2 : Hid (Ig.lineErr (Ig.rule (c :: u)) rs.length = if mk = true then 3 else if rs.length = 100 then 4 else 0) := Lib.hid (by rw [HLE.out, if_neg (by simp)])
              clear hz HLE
              go_wp2_with fail
              refine (HMK.out _).mono ?_
              rintro e w4 ⟨rfl, hx4⟩
              have HX4 := Lib.hid (HX3.out.trans hx4)
              have HO4 := Lib.hid (HO3.out.ext hx4)
              have HB4 := Lib.hid (Blk.ext hx4 HB3.out)
              clear hx4 HX3 HO3 HB3 hcb hfb hlb HMK
              obtain ⟨hcb, hfb, hlb⟩ := HB4.out.all
              cases mk with
              | true =>
                have HER : Hid (R = ([], (k : Int) + 1, 3)) := Lib.hid (by
                  have h1 : Ig.lineErr (Ig.rule (c :: u)) rs.length = 3 := by rw [HLE2.out]; rfl
                  have h2 := HPER.out (by rw [h1]; decide)
                  rwa [h1] at h2)
                go_wp2_with fail
                go_ret3
                refine ⟨some ⟨_, 0, none⟩, 0, 0, by rw [HER.out]; rfl, by rw [HER.out]; rfl, Nat.le_refl _, by rw [HER.out]; exact Sls.nil _ _ _ _, fun a ha => ?_, ?_⟩
                focus
                  cases ha
                  exact (HX4.out).size_le
                exact (HX4.out).alloc _
              | false =>
                obtain ⟨A9, c9, e9, hc9, -⟩ := HO4.out.slice
                subst e9
                by_cases h100 : rs.length = 100
                · have h1002 : (100 : Int) ≤ (rs.length : Int) := by omega
                  have HER : Hid (R = ([], (k : Int) + 1, 4)) := Lib.hid (by
                    have h1 : Ig.lineErr (Ig.rule (c :: u)) rs.length = 4 := by rw [HLE2.out, if_neg (by decide), if_pos h100]
                    have h2 := HPER.out (by rw [h1]; decide)
                    rwa [h1] at h2)
                  clear h100
                  go_wp2_with fail
                  go_ret3
                  refine ⟨some ⟨_, 0, none⟩, 0, 0, by rw [HER.out]; rfl, by rw [HER.out]; rfl, Nat.le_refl _, by rw [HER.out]; exact Sls.nil _ _ _ _, fun a ha => ?_, ?_⟩
                  focus
                    cases ha
                    exact (HX4.out).size_le
                  exact (HX4.out).alloc _
                · have h1002 : ¬ ((100 : Int) ≤ (rs.length : Int)) := by omega
                  have HOK : Hid (R = Ig.parseTo ((Ig.cut 10 (Ig.L s)).drop (k + 1)) (k + 1) (rs ++ [⟨rn, rd, ra, rg⟩])) := Lib.hid (by
                    have h1 : Ig.lineErr (Ig.rule (c :: u)) rs.length = 0 := by rw [HLE2.out, if_neg (by decide), if_neg h100]
                    have h2 := HPE.out.trans (Ig.parse_rule HSG.out HNS.out h1)
                    rwa [← HR.out] at h2)
                  obtain ⟨ie, iz, hie, hiz, his1, hib, hik⟩ := ruInfo
                  have HIE := Lib.hid (⟨hie, hiz, his1, hib, hik⟩ : _ ∧ _ ∧ _ ∧ _ ∧ _)
                  have HBD : Hid (rs.length + 1 ≤ maxLen ∧ (rs.length + 1) * 24 ≤ 140737488355328 ∧ w.heap.size ≤ (w4.alloc (.cells #[.bool rn, .bool rd, .bool ra, .string rg] 60)).heap.size ∧ (w4.alloc (.cells #[.bool rn, .bool rd, .bool ra, .string rg] 60)).rangeAt w4.heap.size 0 [.bool rn, .bool rd, .bool ra, .string rg]) := Lib.hid ⟨by unfold maxLen; omega, by omega, by have := HX4.out.size_le; simp; omega, (Blk.new' (w := w4) (g := w4.heap.size) (cs := #[.bool rn, .bool rd, .bool ra, .string rg]) (t := 60) rfl).range 0 _ (fun j _ => by simp)⟩
                  have hrs2 : rs.length + 1 ≤ 100 := by omega
                  clear hie hiz his1 hib hik h100
                  go_wp2_with (at_builtin; refine wpList_append_w (k := 4) (R := RuR) RuR.one w _ rfl (.tmp 64) (.tmp 66) 23 60 ie iz rfl Tryz.underlying23 HIE.out.1 HIE.out.2.1 HIE.out.2.2.1 HIE.out.2.2.2.1 HIE.out.2.2.2.2 (by decide) w.heap.size (F := All) (.slice A9 rs.length c9) rs rfl (HO4.out.ext ((Ext.refl _).alloc _)) w4.heap.size 1 [.bool rn, .bool rd, .bool ra, .string rg] ⟨rn, rd, ra, rg⟩ rfl HBD.out.2.2.2 rfl rfl HBD.out.1 HBD.out.2.1 HBD.out.2.2.1 ?_)
                  intro g2 cap w5 how5 hgrow
                  have HO5 := Lib.hid how5
                  have HX5 : Hid (Ext w w5) := Lib.hid (Below.grown (HX4.out.alloc _) hgrow (HX4.out.alloc _).size_le (fun j e => (HO4.out.block e).1))
                  clear how5 hgrow
                  go_wp2_with fail
                  go_roundw
                  case rel => exact ⟨i + 1, i + 1, k + 1, _, rfl, by first | rfl | (congr 1; push_cast; omega), rfl, by omega, by omega, by rw [List.length_append, List.length_singleton]; exact hrs2, HO5, HX5, Lib.hid (HNX.out _ HOK.out)⟩
                  case measure => simp [intOf]; omega
    · obtain rfl : i = s.size + 1 := by omega
      have HPE : Hid (R = (rs, 0, 0)) := Lib.hid (by
        rcases HI.out with h | h
        · omega
        · exact h.2)
      have hbig : ¬ ((s.size : Int) + 1 ≤ (s.size : Int)) := by omega
      obtain ⟨A9, c9, e9, hc9, hs9⟩ := HO.out.sls RuR.steadfast HX.out
      subst e9
      have HS9 := Lib.hid hs9
      have HHI : Hid (Hi w.heap.size A9) := Lib.hid (fun a ha => by
        subst ha
        obtain ⟨cs, h1, h2, ⟨h3, ⟨e, _⟩ | ⟨g, cap, cur, e, hb, _⟩⟩, h4⟩ := HO.out
        · cases e
        · cases e; exact hb)
      clear hs9 HI
      go_wp2_with fail
      go_ret3
      rw [HPE.out]
      exact ⟨A9, _, c9, rfl, rfl, hc9, HS9.out, HHI.out, HX.out⟩
end Go.Proofs.YtnjcifppkijanaaGreatDoor
namespace Go.Proofs.YtnjcifppkijanaaGreatDoor
open Go Go.RowKit Go.Shelf
theorem Ig.parseTo_small : ∀ (ls : List (List UInt8)) (n : Nat) (out : List Ig.Ru), out.length ≤ 100 → (Ig.parseTo ls n out).1.length ≤ 100
  | [], n, out, h => h
  | x :: r, n, out, h => by
    show (if x = [] ∨ x.head? = some 35 then Ig.parseTo r (n + 1) out else if Ig.lineErr (Ig.rule x) out.length ≠ 0 then ([], (n : Int) + 1, Ig.lineErr (Ig.rule x) out.length) else Ig.parseTo r (n + 1) (out ++ [Ig.rule x])).1.length ≤ 100
    split
    · exact Ig.parseTo_small r _ _ h
    · split
      · exact Nat.zero_le _
      · rename_i h2 h3
        refine Ig.parseTo_small r _ _ ?_
        rw [List.length_append, List.length_singleton]
        have : out.length ≠ 100 := fun e => by
          apply h3
          unfold Ig.lineErr
          split
          · assumption
          · split
            · decide
            · first | (rw [if_pos e]; decide) | decide
        omega
set_option maxHeartbeats 8000000 in
set_option maxRecDepth 100000 in
theorem parse_walk (s : ByteArray) (w : World) (hg : Glob w) : Calls Tryz.prog 3 #[.string s] w (Ret (.bool true) w) := by
  have HG := Lib.hid hg
  have HAW : Hid (∀ W, Ext w W → Calls Tryz.prog 11 #[] W (Ret (.bool true) W)) := Lib.hid fun W hW => awake39_any W (HG.out.ext hW)
  have hx := Ext.refl w
  clear hg
  by_cases hbig : 300 < s.size
  · have hb2 : (300 : Int) < (s.size : Int) := by omega
    go_enter Tryz.func3, Tryz.ntmps3
    go_wp2_with fail
    refine (HAW.out _ hx).mono ?_
    rintro e w2 ⟨rfl, hx0⟩
    have HX2 := Lib.hid hx0
    clear hx0
    go_wp2_with fail
    go_ret
    exact ⟨rfl, HX2.out⟩
  · have hb2 : ¬ ((300 : Int) < (s.size : Int)) := by omega
    have HP1 := Lib.hid (iparse_any s w (by omega) HG.out)
    have HP2 : Hid (∀ W, Calls Tryz.prog 13 #[.string s] W (ParseF (Ig.parse (Ig.L s)) W)) := Lib.hid fun W => rparse39_any s W (by omega)
    have hsm : (Ig.parse (Ig.L s)).1.length ≤ 100 := Ig.parseTo_small _ _ _ (Nat.zero_le _)
    generalize Ig.parse (Ig.L s) = R at HP1 HP2 hsm
    go_enter Tryz.func3, Tryz.ntmps3
    go_wp2_with fail
    refine HP1.out.mono ?_
    rintro e w1 ⟨A, n, c, rfl, hn, hc, hr, hi, hx1⟩
    have HX1 := Lib.hid hx1
    have HL1 := Lib.hid hr
    have HN1 := Lib.hid hn
    clear hx1 hr hi hc hx
    go_wp2_with fail
    refine (HP2.out _).mono ?_
    rintro e w2 ⟨B, m, d, rfl, hm, hd, hr2, hi2, hx2⟩
    have HX2 := Lib.hid (HX1.out.trans hx2)
    have HSA := Lib.hid (same39_true A B n c m d R.1 w2 (Sls.ext RuR.steadfast HL1.out hx2) hr2 HN1.out hm (by have := HN1.out; omega))
    have h1 : (R.2.1 == R.2.1) = true := by simp
    have h2 : (R.2.2 == R.2.2) = true := by simp
    clear hx2 hr2 hi2 hd hm hn
    go_wp2_with fail
    refine HSA.out.mono ?_
    rintro e w3 ⟨rfl, hx3⟩
    have HX3 := Lib.hid (HX2.out.trans hx3)
    clear hx3
    go_wp2_with fail
    refine (HAW.out _ HX3.out).mono ?_
    rintro e w4 ⟨rfl, hx4⟩
    have HX4 := Lib.hid (HX3.out.trans hx4)
    clear hx4
    go_wp2_with fail
    go_ret
    exact ⟨rfl, HX4.out⟩
end Go.Proofs.YtnjcifppkijanaaGreatDoor
